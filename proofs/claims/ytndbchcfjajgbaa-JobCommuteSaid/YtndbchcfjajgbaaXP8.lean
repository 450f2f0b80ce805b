-- printed by xprint.py
import Derived.Test.YtndbchcfjajgbaaXB
import Derived.Test.YtndbchcfjajgbaaXP0
import Derived.Test.YtndbchcfjajgbaaXP7
namespace Go.Proofs.Ytndbchcfjajgbaa.XP
open Go.Proofs.Ytndbchcfjajgbaa.XB Go.Proofs.Ytndbchcfjajgbaa.XQ
open Go.Proofs.Ytndbchcfjajgbaa.XW
open Go.RowKit Go.Proofs.YtndbchcfjajgbaaW.PrintWords Go.Proofs.YtndbchcfjajgbaaW.PrintLast Go.Proofs.YtndbchcfjajgbaaW.PrintMore
attribute [local go_sem] max2_int min2_int max_two min_two max_three min_three max_four min_four   -- for this text's walks alone
set_option linter.unusedVariables false
set_option linter.unusedSimpArgs false

/-! ### parcel_Valid: function 21 -/
def parcel_Valid.l0 : Nat → List (S24) → List (S24) → Int → Int → Option (Bool)
 | 0, _, _, _, _ => none
 | k + 1, x0, x5, x6, x7 => if x7 < x6 then (if 0 ≤ x7 then (if x7 < (x5.length : Int) then ((parcel_right.f ((rd_T24 x5 x7).f0) ((rd_T24 x5 x7).f1) ((rd_T24 x5 x7).f2) ((rd_T24 x5 x7).f3)).bind fun t108 => (if t108 = true then (if x7 > 0 then (if 0 ≤ (wrap64 (x7 - 1)) then (if (wrap64 (x7 - 1)) < (x0.length : Int) then (if ((Op.bytesLess (((rd_T24 x0 (wrap64 (x7 - 1))).f0).toList) (((rd_T24 x5 x7).f0).toList)) = true) then (parcel_Valid.l0 k x0 x5 x6 (wrap64 (x7 + 1))) else (some false)) else (none)) else (none)) else (parcel_Valid.l0 k x0 x5 x6 (wrap64 (x7 + 1)))) else (some false))) else (none)) else (none)) else (some (decide ((x0.length : Int) ≤ 100)))
def parcel_Valid.f (k : Nat) (l0 : List (S24)) : Option (Bool) := parcel_Valid.l0 k l0 l0 (l0.length : Int) 0
def parcel_Valid.T4 : Bool × List (List Nat × List Nat) := (true, [([], []), ([0], [0]), ([1], [1]), ([2, 1], [2]), ([3], [3]), ([4, 3], [3, 4]), ([5, 3, 3], [3, 5]), ([6], [6]), ([6], [6]), ([8, 6], [6, 8]), ([7, 9, 6], [6, 7, 9]), ([10, 6], [6, 10]), ([11, 6], [6, 11]), ([6], [6]), ([13, 6], [6, 13]), ([12, 14, 6], [6, 12, 14]), ([6, 15, 3], [3, 6, 15]), ([3, 16], [3, 16])])
def parcel_Valid.B4 : List Nat := [0, 1, 3, 7, 15, 31, 63, 127, 127, 383, 1023, 2047, 4095, 127, 8319, 32767, 65535, 131071]
theorem parcel_Valid.tab4 : rtab .any (opsOf Try.f21 4) = parcel_Valid.T4 := by kernel_rfl
theorem parcel_Valid.bits4 : waitsOk parcel_Valid.T4.2 parcel_Valid.B4 = true := by kernel_rfl
set_option maxHeartbeats 8000000 in
set_option maxRecDepth 100000 in
theorem parcel_Valid.calls (k : Nat) (A0 : Option Addr) (c0 : Nat) (l0 : List (S24)) (r : Bool) (w : World) (hr0 : Kd.C k24 w A0 l0.length l0) (hc0 : l0.length ≤ c0) (h : parcel_Valid.f k l0 = some r) :
  Calls Try.prog 21 #[.slice A0 l0.length c0] w fun e w' => e = .returned (.bool r) ∧ Below w.heap.size w w' := by
 have hu24 := Try.underlying24
 have HR0 := Aside0.mk hr0
 have HC0 := Aside0.mk hc0
 clear hr0 hc0
 have HB := Aside0.mk (Below.refl w.heap.size w)
 have H : (parcel_Valid.l0 k l0 l0 (l0.length : Int) 0) = some r := h
 clear h
 have H' := Aside0.mk H
 clear H
 go_enter Try.func21, Try.ntmps21
 go_wp2
 go_loopg [7] k (fun kq v7 w' => ∃ (x7_1 : Int), v7 = .int .i64 x7_1 ∧ Aside0 (parcel_Valid.l0 kq l0 l0 (l0.length : Int) x7_1 = some r) ∧ Aside0 (kq ≤ k) ∧ Aside0 (Below w.heap.size w w'))
 case atStart => exact ⟨(0), t_7f, H', ⟨Nat.le_refl _⟩, ⟨by repeat first | exact HB.out | apply below_alloc | apply pw_below_drewN | apply below_drew1⟩⟩
 case round =>
  clear H'
  obtain ⟨x7_1, rfl, HA, HK1, HB⟩ := hrel
  cases gk with
  | zero => exact absurd HA.out (by simp [parcel_Valid.l0])
  | succ k1 =>
   have H := HA.out
   clear HA
   simp only [parcel_Valid.l0] at H
   by_cases c2 : x7_1 < (l0.length : Int)
   ·rw [if_pos c2] at H
    have c2b0 : decide (x7_1 < (l0.length : Int)) = true := decide_eq_true c2
    clear c2
    by_cases c3 : 0 ≤ x7_1
    ·rw [if_pos c3] at H
     have c3b0 : decide (0 ≤ x7_1) = true := decide_eq_true c3
     clear c3
     by_cases c4 : x7_1 < (l0.length : Int)
     ·rw [if_pos c4] at H
      have c4b0 : decide (x7_1 < (l0.length : Int)) = true := decide_eq_true c4
      clear c4
      replace H := Option.bind_eq_some_iff.mp H
      obtain ⟨t108, A50, H⟩ := H
      try dsimp only at H
      have A5 := Aside0.mk A50
      clear A50
      by_cases c6 : t108 = true
      ·subst c6
       rw [if_pos rfl] at H
       by_cases c7 : x7_1 > 0
       ·rw [if_pos c7] at H
        have c7b0 : decide (0 < x7_1) = true := decide_eq_true c7
        clear c7
        obtain ⟨ji8, hji8⟩ : ∃ j_ : Int, (wrap64 (x7_1 - 1)) = j_ := ⟨_, rfl⟩
        replace H : (if 0 ≤ (ji8) then (if (ji8) < (l0.length : Int) then (if ((Op.bytesLess (((rd_T24 l0 (ji8)).f0).toList) (((rd_T24 l0 x7_1).f0).toList)) = true) then (parcel_Valid.l0 k1 l0 l0 (l0.length : Int) (wrap64 (x7_1 + 1))) else (some false)) else (none)) else (none)) = some r := by first | (rw [hji8] at H; exact H) | (simp only [hji8] at H ⊢; exact H)
        (try rw [hji8] at A5)
        have hji8w : (IntKind.i64.wrap (x7_1 - 1)) = ji8 := (i64_w _).trans hji8
        by_cases c9 : 0 ≤ (ji8)
        ·rw [if_pos c9] at H
         have c9b0 : decide (0 ≤ (ji8)) = true := decide_eq_true c9
         clear c9
         by_cases c10 : (ji8) < (l0.length : Int)
         ·rw [if_pos c10] at H
          have c10b0 : decide ((ji8) < (l0.length : Int)) = true := decide_eq_true c10
          clear c10
          by_cases c11 : ((Op.bytesLess (((rd_T24 l0 (ji8)).f0).toList) (((rd_T24 l0 x7_1).f0).toList)) = true)
          ·rw [if_pos c11] at H
           have c11b0 : (Op.bytesLess (((rd_T24 l0 (ji8)).f0).toList) (((rd_T24 l0 x7_1).f0).toList)) = true := c11
           clear c11
           have H' := Aside0.mk H
           clear H
           have p106 : 0 ≤ (x7_1 : Int) := of_decide_eq_true t_7d
           have q106 : x7_1 < (l0.length : Int) := of_decide_eq_true t_7d
           obtain ⟨ad106, e106, hx106_0, hx106_1, hx106_2, hx106_3⟩ := at_T24 HR0.out x7_1 p106 q106
           cases e106
           replace hx106_0 := hc_ HB.out hx106_0
           replace hx106_1 := hc_ HB.out hx106_1
           replace hx106_2 := hc_ HB.out hx106_2
           replace hx106_3 := hc_ HB.out hx106_3
           replace p106 := eq_true p106
           replace q106 := eq_true q106
           try go_wp2_with (first | ((with_reducible refine gate_dst (N := 4) rfl ?_); refine bx_ (N := 4) (cs := #[.string (⟨#[]⟩ : ByteArray), .string (⟨#[]⟩ : ByteArray), .int .i64 0, .int .i64 0]) (t := 24) ?_; intro gb107 hg w12 hbox hb; have BK107 := Aside0.mk (hbox); have GW107 := Aside0.mk ((by rw [hg]; exact (below_size (bb HB.out)) : w.heap.size ≤ gb107)); have GE107 := Aside0.mk ((by rw [hg]; exact (below_size (bb HB.out)) : w.heap.size ≤ gb107)); replace HB := Aside0.mk (below_step (bb HB.out) hb); clear hb hbox hg; obtain ⟨hcz13_0, hcz13_1, hcz13_2, hcz13_3⟩ := sqc4 BK107.out; obtain ⟨hfz13_0, hfz13_1, hfz13_2, hfz13_3⟩ := frozen4 BK107.out))
           have n0_ : Aside0 (((((w12.setCell ⟨gb107, 0, none⟩ (.string ((rd_T24 l0 x7_1).f0))).setCell ⟨gb107, 1, none⟩ (.string ((rd_T24 l0 x7_1).f1))).setCell ⟨gb107, 2, none⟩ (.int .i64 ((rd_T24 l0 x7_1).f2))).setCell ⟨gb107, 3, none⟩ (.int .i64 ((rd_T24 l0 x7_1).f3))).heap[gb107]? = some (.cells #[.string ((rd_T24 l0 x7_1).f0), .string ((rd_T24 l0 x7_1).f1), .int .i64 ((rd_T24 l0 x7_1).f2), .int .i64 ((rd_T24 l0 x7_1).f3)] 24 (0, 0))) := ⟨t_16⟩
           have n1_ : Aside0 (Below w.heap.size w ((((w12.setCell ⟨gb107, 0, none⟩ (.string ((rd_T24 l0 x7_1).f0))).setCell ⟨gb107, 1, none⟩ (.string ((rd_T24 l0 x7_1).f1))).setCell ⟨gb107, 2, none⟩ (.int .i64 ((rd_T24 l0 x7_1).f2))).setCell ⟨gb107, 3, none⟩ (.int .i64 ((rd_T24 l0 x7_1).f3)))) := ⟨t_32⟩
           (try clear BK107)
           (try clear HB)
           generalize ((((w12.setCell ⟨gb107, 0, none⟩ (.string ((rd_T24 l0 x7_1).f0))).setCell ⟨gb107, 1, none⟩ (.string ((rd_T24 l0 x7_1).f1))).setCell ⟨gb107, 2, none⟩ (.int .i64 ((rd_T24 l0 x7_1).f2))).setCell ⟨gb107, 3, none⟩ (.int .i64 ((rd_T24 l0 x7_1).f3))) = w14 at n0_ n1_ ⊢
           have BK107 := n0_
           have HB := n1_
           clear n0_ n1_
           replace BK107 := Aside0.mk (blk_drew BK107.out)
           replace HB := Aside0.mk (below_drew1 HB.out)
           have p109 : 0 ≤ ((ji8) : Int) := of_decide_eq_true t_7d
           have q109 : (ji8) < (l0.length : Int) := of_decide_eq_true t_7d
           obtain ⟨ad109, e109, hx109_0, hx109_1, hx109_2, hx109_3⟩ := at_T24 HR0.out (ji8) p109 q109
           have hw109_3 := hx109_3
           have hw109_2 := hx109_2
           have hw109_1 := hx109_1
           have hw109_0 := hx109_0
           obtain rfl : ad106 = ad109 := (by injection e109)
           replace hx109_0 := hc_ HB.out hx109_0
           replace hx109_1 := hc_ HB.out hx109_1
           replace hx109_2 := hc_ HB.out hx109_2
           replace hx109_3 := hc_ HB.out hx109_3
           replace p109 := eq_true p109
           replace q109 := eq_true q109
           refine start_ (n := 18) (S := fun w' => w'.cell? ⟨gb107, 0, none⟩ = some (.string ((rd_T24 l0 x7_1).f0)) ∧ w'.cell? ⟨gb107, 1, none⟩ = some (.string ((rd_T24 l0 x7_1).f1)) ∧ w'.cell? ⟨gb107, 2, none⟩ = some (.int .i64 ((rd_T24 l0 x7_1).f2)) ∧ w'.cell? ⟨gb107, 3, none⟩ = some (.int .i64 ((rd_T24 l0 x7_1).f3)) ∧ w'.cell? (ad106.add (((ji8)).toNat * 4)) = some (.string ((rd_T24 l0 (ji8)).f0)) ∧ w'.cell? ⟨(ad106.add (((ji8)).toNat * 4)).block, (ad106.add (((ji8)).toNat * 4)).off + 1, none⟩ = some (.string ((rd_T24 l0 (ji8)).f1)) ∧ w'.cell? ⟨(ad106.add (((ji8)).toNat * 4)).block, (ad106.add (((ji8)).toNat * 4)).off + 2, none⟩ = some (.int .i64 ((rd_T24 l0 (ji8)).f2)) ∧ w'.cell? ⟨(ad106.add (((ji8)).toNat * 4)).block, (ad106.add (((ji8)).toNat * 4)).off + 3, none⟩ = some (.int .i64 ((rd_T24 l0 (ji8)).f3))) (ds := []) q18_0 t_8e rfl rfl ⟨bc BK107 0, bc BK107 1, bc BK107 2, bc BK107 3, ((HB.out.cell (World.block_lt_of_cell? w _ hw109_0)).trans hw109_0), ((HB.out.cell (World.block_lt_of_cell? w _ hw109_1)).trans hw109_1), ((HB.out.cell (World.block_lt_of_cell? w _ hw109_2)).trans hw109_2), ((HB.out.cell (World.block_lt_of_cell? w _ hw109_3)).trans hw109_3)⟩ (fun hHeld => ?_); refine with_tabW parcel_Valid.tab4 parcel_Valid.bits4 (fun HT_ HW_ => ?_)
           generalize w14.drew = w15 at BK107 HB hx109_0 hx109_1 hx109_2 hx109_3 hHeld ⊢
           refine k_ (i := 0) (N := some 12) q18_1 rfl rfl (take_ofW HT_.out HW_.out t_8e) (Or.inl ⟨rfl, t_6a⟩) hHeld ?_
           refine one_ (i := 1) (N := some 13) q18_3 rfl rfl (one_of HT_.out t_8e) (by decide) (fun K hK => ?_)
           refine goes_ Try.func74 t_8e rfl #[.agg #[.string ((rd_T24 l0 x7_1).f0), .string ((rd_T24 l0 x7_1).f1), .int .i64 ((rd_T24 l0 x7_1).f2), .int .i64 ((rd_T24 l0 x7_1).f3)]] (by rfl) rfl rfl t_45 ?_
           with_reducible refine (parcel_right.calls ((rd_T24 l0 x7_1).f0) ((rd_T24 l0 x7_1).f1) ((rd_T24 l0 x7_1).f2) ((rd_T24 l0 x7_1).f3) true _ A5.out).mono ?_
           rintro e w16 ⟨rfl, hb⟩
           refine ⟨_, rfl, ?_⟩
           replace BK107 := kc BK107 hb
           replace HB := Aside0.mk (below_step t_32 hb)
           (try clear hb)
           refine hK.out _ _ ⟨bc BK107 0, bc BK107 1, bc BK107 2, bc BK107 3, ((HB.out.cell (World.block_lt_of_cell? w _ hw109_0)).trans hw109_0), ((HB.out.cell (World.block_lt_of_cell? w _ hw109_1)).trans hw109_1), ((HB.out.cell (World.block_lt_of_cell? w _ hw109_2)).trans hw109_2), ((HB.out.cell (World.block_lt_of_cell? w _ hw109_3)).trans hw109_3)⟩ (fun hHeld => ?_)
           clear hK K
           refine norm_ t_46 ?_
           refine p_ (i := 2) (N := some 14) q18_7 rfl rfl (any_of HT_.out t_8e) ?_
           refine p_ (i := 3) (N := some 15) q18_f rfl rfl (any_of HT_.out t_8e) ?_
           refine p_ (i := 4) (N := some 16) q18_1f rfl rfl (any_of HT_.out t_8e) ?_
           refine p_ (i := 5) (N := some 17) q18_3f rfl rfl (any_of HT_.out t_8e) ?_
           refine p_ (i := 6) (N := some 18) q18_7f rfl rfl (any_of HT_.out t_8e) ?_
           refine p_ (i := 7) (N := some 19) q18_ff rfl rfl (any_of HT_.out t_8e) ?_
           refine p_ (i := 8) (N := some 20) q18_1ff rfl rfl (any_of HT_.out t_8e) ?_
           refine p_ (i := 9) (N := some 21) q18_3ff rfl rfl (any_of HT_.out t_8e) ?_
           refine p_ (i := 10) (N := some 22) q18_7ff rfl rfl (any_of HT_.out t_8e) ?_
           refine p_ (i := 11) (N := some 23) q18_fff rfl rfl (any_of HT_.out t_8e) ?_
           refine p_ (i := 13) (N := some 25) q18_2fff rfl rfl (any_of HT_.out t_8e) ?_
           refine k_ (i := 12) (N := some 24) q18_3fff rfl rfl (take_ofW HT_.out HW_.out t_8e) (Or.inl ⟨rfl, t_6a⟩) hHeld ?_
           refine k_ (i := 14) (N := some 26) q18_7fff rfl rfl (take_ofW HT_.out HW_.out t_8e) (Or.inl ⟨rfl, t_6a⟩) hHeld ?_
           refine p_ (i := 15) (N := some 27) q18_ffff rfl rfl (any_of HT_.out t_8e) ?_
           refine p_ (i := 16) (N := some 28) q18_1ffff rfl rfl (any_of HT_.out t_8e) ?_
           refine p_ (i := 17) (N := some 29) q18_3ffff rfl rfl (any_of HT_.out t_8e) ?_
           refine done_ (done_of HT_.out t_8e) ?_
           try go_wp2
           go_roundg k1
           case measure => have := HK1.out; omega
           case rel => exact ⟨(wrap64 (x7_1 + 1)), t_7f, H', ⟨t_87⟩, ⟨t_32⟩⟩
          ·rw [if_neg c11] at H
           have c11b0 : (Op.bytesLess (((rd_T24 l0 (ji8)).f0).toList) (((rd_T24 l0 x7_1).f0).toList)) = false := by simpa using c11
           clear c11
           obtain rfl := Option.some.inj H
           have p106 : 0 ≤ (x7_1 : Int) := of_decide_eq_true t_7d
           have q106 : x7_1 < (l0.length : Int) := of_decide_eq_true t_7d
           obtain ⟨ad106, e106, hx106_0, hx106_1, hx106_2, hx106_3⟩ := at_T24 HR0.out x7_1 p106 q106
           cases e106
           replace hx106_0 := hc_ HB.out hx106_0
           replace hx106_1 := hc_ HB.out hx106_1
           replace hx106_2 := hc_ HB.out hx106_2
           replace hx106_3 := hc_ HB.out hx106_3
           replace p106 := eq_true p106
           replace q106 := eq_true q106
           try go_wp2_with (first | ((with_reducible refine gate_dst (N := 4) rfl ?_); refine bx_ (N := 4) (cs := #[.string (⟨#[]⟩ : ByteArray), .string (⟨#[]⟩ : ByteArray), .int .i64 0, .int .i64 0]) (t := 24) ?_; intro gb107 hg w17 hbox hb; have BK107 := Aside0.mk (hbox); have GW107 := Aside0.mk ((by rw [hg]; exact (below_size (bb HB.out)) : w.heap.size ≤ gb107)); have GE107 := Aside0.mk ((by rw [hg]; exact (below_size (bb HB.out)) : w.heap.size ≤ gb107)); replace HB := Aside0.mk (below_step (bb HB.out) hb); clear hb hbox hg; obtain ⟨hcz18_0, hcz18_1, hcz18_2, hcz18_3⟩ := sqc4 BK107.out; obtain ⟨hfz18_0, hfz18_1, hfz18_2, hfz18_3⟩ := frozen4 BK107.out))
           have n0_ : Aside0 (((((w17.setCell ⟨gb107, 0, none⟩ (.string ((rd_T24 l0 x7_1).f0))).setCell ⟨gb107, 1, none⟩ (.string ((rd_T24 l0 x7_1).f1))).setCell ⟨gb107, 2, none⟩ (.int .i64 ((rd_T24 l0 x7_1).f2))).setCell ⟨gb107, 3, none⟩ (.int .i64 ((rd_T24 l0 x7_1).f3))).heap[gb107]? = some (.cells #[.string ((rd_T24 l0 x7_1).f0), .string ((rd_T24 l0 x7_1).f1), .int .i64 ((rd_T24 l0 x7_1).f2), .int .i64 ((rd_T24 l0 x7_1).f3)] 24 (0, 0))) := ⟨t_16⟩
           have n1_ : Aside0 (Below w.heap.size w ((((w17.setCell ⟨gb107, 0, none⟩ (.string ((rd_T24 l0 x7_1).f0))).setCell ⟨gb107, 1, none⟩ (.string ((rd_T24 l0 x7_1).f1))).setCell ⟨gb107, 2, none⟩ (.int .i64 ((rd_T24 l0 x7_1).f2))).setCell ⟨gb107, 3, none⟩ (.int .i64 ((rd_T24 l0 x7_1).f3)))) := ⟨t_32⟩
           (try clear BK107)
           (try clear HB)
           generalize ((((w17.setCell ⟨gb107, 0, none⟩ (.string ((rd_T24 l0 x7_1).f0))).setCell ⟨gb107, 1, none⟩ (.string ((rd_T24 l0 x7_1).f1))).setCell ⟨gb107, 2, none⟩ (.int .i64 ((rd_T24 l0 x7_1).f2))).setCell ⟨gb107, 3, none⟩ (.int .i64 ((rd_T24 l0 x7_1).f3))) = w19 at n0_ n1_ ⊢
           have BK107 := n0_
           have HB := n1_
           clear n0_ n1_
           replace BK107 := Aside0.mk (blk_drew BK107.out)
           replace HB := Aside0.mk (below_drew1 HB.out)
           have p109 : 0 ≤ ((ji8) : Int) := of_decide_eq_true t_7d
           have q109 : (ji8) < (l0.length : Int) := of_decide_eq_true t_7d
           obtain ⟨ad109, e109, hx109_0, hx109_1, hx109_2, hx109_3⟩ := at_T24 HR0.out (ji8) p109 q109
           have hw109_3 := hx109_3
           have hw109_2 := hx109_2
           have hw109_1 := hx109_1
           have hw109_0 := hx109_0
           obtain rfl : ad106 = ad109 := (by injection e109)
           replace hx109_0 := hc_ HB.out hx109_0
           replace hx109_1 := hc_ HB.out hx109_1
           replace hx109_2 := hc_ HB.out hx109_2
           replace hx109_3 := hc_ HB.out hx109_3
           replace p109 := eq_true p109
           replace q109 := eq_true q109
           refine start_ (n := 18) (S := fun w' => w'.cell? ⟨gb107, 0, none⟩ = some (.string ((rd_T24 l0 x7_1).f0)) ∧ w'.cell? ⟨gb107, 1, none⟩ = some (.string ((rd_T24 l0 x7_1).f1)) ∧ w'.cell? ⟨gb107, 2, none⟩ = some (.int .i64 ((rd_T24 l0 x7_1).f2)) ∧ w'.cell? ⟨gb107, 3, none⟩ = some (.int .i64 ((rd_T24 l0 x7_1).f3)) ∧ w'.cell? (ad106.add (((ji8)).toNat * 4)) = some (.string ((rd_T24 l0 (ji8)).f0)) ∧ w'.cell? ⟨(ad106.add (((ji8)).toNat * 4)).block, (ad106.add (((ji8)).toNat * 4)).off + 1, none⟩ = some (.string ((rd_T24 l0 (ji8)).f1)) ∧ w'.cell? ⟨(ad106.add (((ji8)).toNat * 4)).block, (ad106.add (((ji8)).toNat * 4)).off + 2, none⟩ = some (.int .i64 ((rd_T24 l0 (ji8)).f2)) ∧ w'.cell? ⟨(ad106.add (((ji8)).toNat * 4)).block, (ad106.add (((ji8)).toNat * 4)).off + 3, none⟩ = some (.int .i64 ((rd_T24 l0 (ji8)).f3))) (ds := []) q18_0 t_8e rfl rfl ⟨bc BK107 0, bc BK107 1, bc BK107 2, bc BK107 3, ((HB.out.cell (World.block_lt_of_cell? w _ hw109_0)).trans hw109_0), ((HB.out.cell (World.block_lt_of_cell? w _ hw109_1)).trans hw109_1), ((HB.out.cell (World.block_lt_of_cell? w _ hw109_2)).trans hw109_2), ((HB.out.cell (World.block_lt_of_cell? w _ hw109_3)).trans hw109_3)⟩ (fun hHeld => ?_); refine with_tabW parcel_Valid.tab4 parcel_Valid.bits4 (fun HT_ HW_ => ?_)
           generalize w19.drew = w20 at BK107 HB hx109_0 hx109_1 hx109_2 hx109_3 hHeld ⊢
           refine k_ (i := 0) (N := some 12) q18_1 rfl rfl (take_ofW HT_.out HW_.out t_8e) (Or.inl ⟨rfl, t_6a⟩) hHeld ?_
           refine one_ (i := 1) (N := some 13) q18_3 rfl rfl (one_of HT_.out t_8e) (by decide) (fun K hK => ?_)
           refine goes_ Try.func74 t_8e rfl #[.agg #[.string ((rd_T24 l0 x7_1).f0), .string ((rd_T24 l0 x7_1).f1), .int .i64 ((rd_T24 l0 x7_1).f2), .int .i64 ((rd_T24 l0 x7_1).f3)]] (by rfl) rfl rfl t_45 ?_
           with_reducible refine (parcel_right.calls ((rd_T24 l0 x7_1).f0) ((rd_T24 l0 x7_1).f1) ((rd_T24 l0 x7_1).f2) ((rd_T24 l0 x7_1).f3) true _ A5.out).mono ?_
           rintro e w21 ⟨rfl, hb⟩
           refine ⟨_, rfl, ?_⟩
           replace BK107 := kc BK107 hb
           replace HB := Aside0.mk (below_step t_32 hb)
           (try clear hb)
           refine hK.out _ _ ⟨bc BK107 0, bc BK107 1, bc BK107 2, bc BK107 3, ((HB.out.cell (World.block_lt_of_cell? w _ hw109_0)).trans hw109_0), ((HB.out.cell (World.block_lt_of_cell? w _ hw109_1)).trans hw109_1), ((HB.out.cell (World.block_lt_of_cell? w _ hw109_2)).trans hw109_2), ((HB.out.cell (World.block_lt_of_cell? w _ hw109_3)).trans hw109_3)⟩ (fun hHeld => ?_)
           clear hK K
           refine norm_ t_46 ?_
           refine p_ (i := 2) (N := some 14) q18_7 rfl rfl (any_of HT_.out t_8e) ?_
           refine p_ (i := 3) (N := some 15) q18_f rfl rfl (any_of HT_.out t_8e) ?_
           refine p_ (i := 4) (N := some 16) q18_1f rfl rfl (any_of HT_.out t_8e) ?_
           refine p_ (i := 5) (N := some 17) q18_3f rfl rfl (any_of HT_.out t_8e) ?_
           refine p_ (i := 6) (N := some 18) q18_7f rfl rfl (any_of HT_.out t_8e) ?_
           refine p_ (i := 7) (N := some 19) q18_ff rfl rfl (any_of HT_.out t_8e) ?_
           refine p_ (i := 8) (N := some 20) q18_1ff rfl rfl (any_of HT_.out t_8e) ?_
           refine p_ (i := 9) (N := some 21) q18_3ff rfl rfl (any_of HT_.out t_8e) ?_
           refine p_ (i := 10) (N := some 22) q18_7ff rfl rfl (any_of HT_.out t_8e) ?_
           refine p_ (i := 11) (N := some 23) q18_fff rfl rfl (any_of HT_.out t_8e) ?_
           refine p_ (i := 13) (N := some 25) q18_2fff rfl rfl (any_of HT_.out t_8e) ?_
           refine k_ (i := 12) (N := some 24) q18_3fff rfl rfl (take_ofW HT_.out HW_.out t_8e) (Or.inl ⟨rfl, t_6a⟩) hHeld ?_
           refine k_ (i := 14) (N := some 26) q18_7fff rfl rfl (take_ofW HT_.out HW_.out t_8e) (Or.inl ⟨rfl, t_6a⟩) hHeld ?_
           refine p_ (i := 15) (N := some 27) q18_ffff rfl rfl (any_of HT_.out t_8e) ?_
           refine p_ (i := 16) (N := some 28) q18_1ffff rfl rfl (any_of HT_.out t_8e) ?_
           refine p_ (i := 17) (N := some 29) q18_3ffff rfl rfl (any_of HT_.out t_8e) ?_
           refine done_ (done_of HT_.out t_8e) ?_
           try go_wp2
           go_ret
           exact ⟨by first | rfl | (simp [errW_none, errW_some] <;> rfl) | (simp only [← hji8]; first | rfl | (simp [errW_none, errW_some] <;> rfl)) | (simp [*, errW_none, errW_some] <;> rfl), t_32⟩
         ·rw [if_neg c10] at H
          exact absurd H (by simp)
        ·rw [if_neg c9] at H
         exact absurd H (by simp)
       ·rw [if_neg c7] at H
        have c7b0 : decide (0 < x7_1) = false := decide_eq_false c7
        clear c7
        have H' := Aside0.mk H
        clear H
        have p106 : 0 ≤ (x7_1 : Int) := of_decide_eq_true t_7d
        have q106 : x7_1 < (l0.length : Int) := of_decide_eq_true t_7d
        obtain ⟨ad106, e106, hx106_0, hx106_1, hx106_2, hx106_3⟩ := at_T24 HR0.out x7_1 p106 q106
        cases e106
        replace hx106_0 := hc_ HB.out hx106_0
        replace hx106_1 := hc_ HB.out hx106_1
        replace hx106_2 := hc_ HB.out hx106_2
        replace hx106_3 := hc_ HB.out hx106_3
        replace p106 := eq_true p106
        replace q106 := eq_true q106
        try go_wp2_with (first | ((with_reducible refine gate_dst (N := 4) rfl ?_); refine bx_ (N := 4) (cs := #[.string (⟨#[]⟩ : ByteArray), .string (⟨#[]⟩ : ByteArray), .int .i64 0, .int .i64 0]) (t := 24) ?_; intro gb107 hg w22 hbox hb; have BK107 := Aside0.mk (hbox); have GW107 := Aside0.mk ((by rw [hg]; exact (below_size (bb HB.out)) : w.heap.size ≤ gb107)); have GE107 := Aside0.mk ((by rw [hg]; exact (below_size (bb HB.out)) : w.heap.size ≤ gb107)); replace HB := Aside0.mk (below_step (bb HB.out) hb); clear hb hbox hg; obtain ⟨hcz23_0, hcz23_1, hcz23_2, hcz23_3⟩ := sqc4 BK107.out; obtain ⟨hfz23_0, hfz23_1, hfz23_2, hfz23_3⟩ := frozen4 BK107.out))
        have n0_ : Aside0 (((((w22.setCell ⟨gb107, 0, none⟩ (.string ((rd_T24 l0 x7_1).f0))).setCell ⟨gb107, 1, none⟩ (.string ((rd_T24 l0 x7_1).f1))).setCell ⟨gb107, 2, none⟩ (.int .i64 ((rd_T24 l0 x7_1).f2))).setCell ⟨gb107, 3, none⟩ (.int .i64 ((rd_T24 l0 x7_1).f3))).heap[gb107]? = some (.cells #[.string ((rd_T24 l0 x7_1).f0), .string ((rd_T24 l0 x7_1).f1), .int .i64 ((rd_T24 l0 x7_1).f2), .int .i64 ((rd_T24 l0 x7_1).f3)] 24 (0, 0))) := ⟨t_16⟩
        have n1_ : Aside0 (Below w.heap.size w ((((w22.setCell ⟨gb107, 0, none⟩ (.string ((rd_T24 l0 x7_1).f0))).setCell ⟨gb107, 1, none⟩ (.string ((rd_T24 l0 x7_1).f1))).setCell ⟨gb107, 2, none⟩ (.int .i64 ((rd_T24 l0 x7_1).f2))).setCell ⟨gb107, 3, none⟩ (.int .i64 ((rd_T24 l0 x7_1).f3)))) := ⟨t_32⟩
        (try clear BK107)
        (try clear HB)
        generalize ((((w22.setCell ⟨gb107, 0, none⟩ (.string ((rd_T24 l0 x7_1).f0))).setCell ⟨gb107, 1, none⟩ (.string ((rd_T24 l0 x7_1).f1))).setCell ⟨gb107, 2, none⟩ (.int .i64 ((rd_T24 l0 x7_1).f2))).setCell ⟨gb107, 3, none⟩ (.int .i64 ((rd_T24 l0 x7_1).f3))) = w24 at n0_ n1_ ⊢
        have BK107 := n0_
        have HB := n1_
        clear n0_ n1_
        replace BK107 := Aside0.mk (blk_drew BK107.out)
        replace HB := Aside0.mk (below_drew1 HB.out)
        refine start_ (n := 18) (S := fun w' => w'.cell? ⟨gb107, 0, none⟩ = some (.string ((rd_T24 l0 x7_1).f0)) ∧ w'.cell? ⟨gb107, 1, none⟩ = some (.string ((rd_T24 l0 x7_1).f1)) ∧ w'.cell? ⟨gb107, 2, none⟩ = some (.int .i64 ((rd_T24 l0 x7_1).f2)) ∧ w'.cell? ⟨gb107, 3, none⟩ = some (.int .i64 ((rd_T24 l0 x7_1).f3))) (ds := []) q18_0 t_8e rfl rfl (sqc4 BK107.out) (fun hHeld => ?_); refine with_tabW parcel_Valid.tab4 parcel_Valid.bits4 (fun HT_ HW_ => ?_)
        generalize w24.drew = w25 at BK107 HB hHeld ⊢
        refine k_ (i := 0) (N := some 12) q18_1 rfl rfl (take_ofW HT_.out HW_.out t_8e) (Or.inl ⟨rfl, t_73⟩) hHeld ?_
        refine one_ (i := 1) (N := some 13) q18_3 rfl rfl (one_of HT_.out t_8e) (by decide) (fun K hK => ?_)
        refine goes_ Try.func74 t_8e rfl #[.agg #[.string ((rd_T24 l0 x7_1).f0), .string ((rd_T24 l0 x7_1).f1), .int .i64 ((rd_T24 l0 x7_1).f2), .int .i64 ((rd_T24 l0 x7_1).f3)]] (by rfl) rfl rfl t_45 ?_
        with_reducible refine (parcel_right.calls ((rd_T24 l0 x7_1).f0) ((rd_T24 l0 x7_1).f1) ((rd_T24 l0 x7_1).f2) ((rd_T24 l0 x7_1).f3) true _ A5.out).mono ?_
        rintro e w26 ⟨rfl, hb⟩
        refine ⟨_, rfl, ?_⟩
        replace BK107 := kc BK107 hb
        replace HB := Aside0.mk (below_step t_32 hb)
        (try clear hb)
        refine hK.out _ _ (sqc4 BK107.out) (fun hHeld => ?_)
        clear hK K
        refine norm_ t_46 ?_
        refine p_ (i := 2) (N := some 14) q18_7 rfl rfl (any_of HT_.out t_8e) ?_
        refine p_ (i := 3) (N := some 15) q18_f rfl rfl (any_of HT_.out t_8e) ?_
        refine p_ (i := 4) (N := some 16) q18_1f rfl rfl (any_of HT_.out t_8e) ?_
        refine p_ (i := 5) (N := some 17) q18_3f rfl rfl (any_of HT_.out t_8e) ?_
        refine p_ (i := 6) (N := some 18) q18_7f rfl rfl (any_of HT_.out t_8e) ?_
        refine u_ (i := 7) (N := some 19) q18_ff rfl rfl (any_of HT_.out t_8e) ?_
        refine u_ (i := 8) (N := some 20) q18_1ff rfl rfl (any_of HT_.out t_8e) ?_
        refine u_ (i := 9) (N := some 21) q18_3ff rfl rfl (any_of HT_.out t_8e) ?_
        refine u_ (i := 10) (N := some 22) q18_7ff rfl rfl (any_of HT_.out t_8e) ?_
        refine u_ (i := 11) (N := some 23) q18_fff rfl rfl (any_of HT_.out t_8e) ?_
        refine u_ (i := 12) (N := some 24) q18_1fff rfl rfl (any_of HT_.out t_8e) ?_
        refine u_ (i := 13) (N := some 25) q18_3fff rfl rfl (any_of HT_.out t_8e) ?_
        refine u_ (i := 14) (N := some 26) q18_7fff rfl rfl (any_of HT_.out t_8e) ?_
        refine u_ (i := 15) (N := some 27) q18_ffff rfl rfl (any_of HT_.out t_8e) ?_
        refine p_ (i := 16) (N := some 28) q18_1ffff rfl rfl (any_of HT_.out t_8e) ?_
        refine p_ (i := 17) (N := some 29) q18_3ffff rfl rfl (any_of HT_.out t_8e) ?_
        refine done_ (done_of HT_.out t_8e) ?_
        try go_wp2
        go_roundg k1
        case measure => have := HK1.out; omega
        case rel => exact ⟨(wrap64 (x7_1 + 1)), t_7f, H', ⟨t_87⟩, ⟨t_32⟩⟩
      ·replace c6 := Bool.eq_false_iff.mpr c6
       subst c6
       rw [if_neg (show ¬ (false = true) by decide)] at H
       obtain rfl := Option.some.inj H
       have p106 : 0 ≤ (x7_1 : Int) := of_decide_eq_true t_7d
       have q106 : x7_1 < (l0.length : Int) := of_decide_eq_true t_7d
       obtain ⟨ad106, e106, hx106_0, hx106_1, hx106_2, hx106_3⟩ := at_T24 HR0.out x7_1 p106 q106
       cases e106
       replace hx106_0 := hc_ HB.out hx106_0
       replace hx106_1 := hc_ HB.out hx106_1
       replace hx106_2 := hc_ HB.out hx106_2
       replace hx106_3 := hc_ HB.out hx106_3
       replace p106 := eq_true p106
       replace q106 := eq_true q106
       try go_wp2_with (first | ((with_reducible refine gate_dst (N := 4) rfl ?_); refine bx_ (N := 4) (cs := #[.string (⟨#[]⟩ : ByteArray), .string (⟨#[]⟩ : ByteArray), .int .i64 0, .int .i64 0]) (t := 24) ?_; intro gb107 hg w27 hbox hb; have BK107 := Aside0.mk (hbox); have GW107 := Aside0.mk ((by rw [hg]; exact (below_size (bb HB.out)) : w.heap.size ≤ gb107)); have GE107 := Aside0.mk ((by rw [hg]; exact (below_size (bb HB.out)) : w.heap.size ≤ gb107)); replace HB := Aside0.mk (below_step (bb HB.out) hb); clear hb hbox hg; obtain ⟨hcz28_0, hcz28_1, hcz28_2, hcz28_3⟩ := sqc4 BK107.out; obtain ⟨hfz28_0, hfz28_1, hfz28_2, hfz28_3⟩ := frozen4 BK107.out))
       have n0_ : Aside0 (((((w27.setCell ⟨gb107, 0, none⟩ (.string ((rd_T24 l0 x7_1).f0))).setCell ⟨gb107, 1, none⟩ (.string ((rd_T24 l0 x7_1).f1))).setCell ⟨gb107, 2, none⟩ (.int .i64 ((rd_T24 l0 x7_1).f2))).setCell ⟨gb107, 3, none⟩ (.int .i64 ((rd_T24 l0 x7_1).f3))).heap[gb107]? = some (.cells #[.string ((rd_T24 l0 x7_1).f0), .string ((rd_T24 l0 x7_1).f1), .int .i64 ((rd_T24 l0 x7_1).f2), .int .i64 ((rd_T24 l0 x7_1).f3)] 24 (0, 0))) := ⟨t_16⟩
       have n1_ : Aside0 (Below w.heap.size w ((((w27.setCell ⟨gb107, 0, none⟩ (.string ((rd_T24 l0 x7_1).f0))).setCell ⟨gb107, 1, none⟩ (.string ((rd_T24 l0 x7_1).f1))).setCell ⟨gb107, 2, none⟩ (.int .i64 ((rd_T24 l0 x7_1).f2))).setCell ⟨gb107, 3, none⟩ (.int .i64 ((rd_T24 l0 x7_1).f3)))) := ⟨t_32⟩
       (try clear BK107)
       (try clear HB)
       generalize ((((w27.setCell ⟨gb107, 0, none⟩ (.string ((rd_T24 l0 x7_1).f0))).setCell ⟨gb107, 1, none⟩ (.string ((rd_T24 l0 x7_1).f1))).setCell ⟨gb107, 2, none⟩ (.int .i64 ((rd_T24 l0 x7_1).f2))).setCell ⟨gb107, 3, none⟩ (.int .i64 ((rd_T24 l0 x7_1).f3))) = w29 at n0_ n1_ ⊢
       have BK107 := n0_
       have HB := n1_
       clear n0_ n1_
       replace BK107 := Aside0.mk (blk_drew BK107.out)
       replace HB := Aside0.mk (below_drew1 HB.out)
       refine start_ (n := 18) (S := fun w' => w'.cell? ⟨gb107, 0, none⟩ = some (.string ((rd_T24 l0 x7_1).f0)) ∧ w'.cell? ⟨gb107, 1, none⟩ = some (.string ((rd_T24 l0 x7_1).f1)) ∧ w'.cell? ⟨gb107, 2, none⟩ = some (.int .i64 ((rd_T24 l0 x7_1).f2)) ∧ w'.cell? ⟨gb107, 3, none⟩ = some (.int .i64 ((rd_T24 l0 x7_1).f3))) (ds := []) q18_0 t_8e rfl rfl (sqc4 BK107.out) (fun hHeld => ?_); refine with_tabW parcel_Valid.tab4 parcel_Valid.bits4 (fun HT_ HW_ => ?_)
       generalize w29.drew = w30 at BK107 HB hHeld ⊢
       refine k_ (i := 0) (N := some 12) q18_1 rfl rfl (take_ofW HT_.out HW_.out t_8e) (Or.inl ⟨rfl, t_73⟩) hHeld ?_
       refine one_ (i := 1) (N := some 13) q18_3 rfl rfl (one_of HT_.out t_8e) (by decide) (fun K hK => ?_)
       refine goes_ Try.func74 t_8e rfl #[.agg #[.string ((rd_T24 l0 x7_1).f0), .string ((rd_T24 l0 x7_1).f1), .int .i64 ((rd_T24 l0 x7_1).f2), .int .i64 ((rd_T24 l0 x7_1).f3)]] (by rfl) rfl rfl t_45 ?_
       with_reducible refine (parcel_right.calls ((rd_T24 l0 x7_1).f0) ((rd_T24 l0 x7_1).f1) ((rd_T24 l0 x7_1).f2) ((rd_T24 l0 x7_1).f3) false _ A5.out).mono ?_
       rintro e w31 ⟨rfl, hb⟩
       refine ⟨_, rfl, ?_⟩
       replace BK107 := kc BK107 hb
       replace HB := Aside0.mk (below_step t_32 hb)
       (try clear hb)
       refine hK.out _ _ (sqc4 BK107.out) (fun hHeld => ?_)
       clear hK K
       refine norm_ t_46 ?_
       refine p_ (i := 2) (N := some 14) q18_7 rfl rfl (any_of HT_.out t_8e) ?_
       refine p_ (i := 3) (N := some 15) q18_f rfl rfl (any_of HT_.out t_8e) ?_
       refine u_ (i := 4) (N := some 16) q18_1f rfl rfl (any_of HT_.out t_8e) ?_
       refine u_ (i := 5) (N := some 17) q18_3f rfl rfl (any_of HT_.out t_8e) ?_
       refine u_ (i := 6) (N := some 18) q18_7f rfl rfl (any_of HT_.out t_8e) ?_
       refine u_ (i := 7) (N := some 19) q18_ff rfl rfl (any_of HT_.out t_8e) ?_
       refine u_ (i := 8) (N := some 20) q18_1ff rfl rfl (any_of HT_.out t_8e) ?_
       refine u_ (i := 9) (N := some 21) q18_3ff rfl rfl (any_of HT_.out t_8e) ?_
       refine u_ (i := 10) (N := some 22) q18_7ff rfl rfl (any_of HT_.out t_8e) ?_
       refine u_ (i := 11) (N := some 23) q18_fff rfl rfl (any_of HT_.out t_8e) ?_
       refine u_ (i := 12) (N := some 24) q18_1fff rfl rfl (any_of HT_.out t_8e) ?_
       refine u_ (i := 13) (N := some 25) q18_3fff rfl rfl (any_of HT_.out t_8e) ?_
       refine u_ (i := 14) (N := some 26) q18_7fff rfl rfl (any_of HT_.out t_8e) ?_
       refine u_ (i := 15) (N := some 27) q18_ffff rfl rfl (any_of HT_.out t_8e) ?_
       refine u_ (i := 16) (N := some 28) q18_1ffff rfl rfl (any_of HT_.out t_8e) ?_
       refine p_ (i := 17) (N := some 29) q18_3ffff rfl rfl (any_of HT_.out t_8e) ?_
       refine done_ (done_of HT_.out t_8e) ?_
       try go_wp2
       go_ret
       exact ⟨t_68, t_32⟩
     ·rw [if_neg c4] at H
      exact absurd H (by simp)
    ·rw [if_neg c3] at H
     exact absurd H (by simp)
   ·rw [if_neg c2] at H
    have c2b0 : decide (x7_1 < (l0.length : Int)) = false := decide_eq_false c2
    clear c2
    obtain rfl := Option.some.inj H
    go_wp2
    go_ret
    exact ⟨t_68, by repeat first | exact HB.out | apply below_alloc | apply pw_below_drewN | apply below_drew1⟩

end Go.Proofs.Ytndbchcfjajgbaa.XP
