/- parcel.split and parcel.join, walked. -/
import Derived.Test.YtndbchcfjajgbaaXB
import Derived.Test.YtndbchcfjajgbaaHandDo
import Derived.Deep.RegionWith
namespace Go.Proofs.Ytndbchcfjajgbaa.XP
open Go.Proofs.Ytndbchcfjajgbaa.XB Go.Proofs.Ytndbchcfjajgbaa.XQ
section
open Go.RowKit Go.Proofs Go.Proofs.YtndbchcfjajgbaaW.PrintWords Go.Proofs.YtndbchcfjajgbaaW.PrintLast Go.Proofs.Ytndbchcfjajgbaa.XH
set_option linter.unusedVariables false
set_option linter.unusedSimpArgs false
theorem rd_set_f0 (xs : List S24) (k : Nat) (z : S24) (hk : k < xs.length) (hz : z.f0 = (rd_T24 xs k).f0) (j : Nat) : (rd_T24 (xs.set k z) j).f0 = (rd_T24 xs j).f0 := by
  unfold rd_T24 at *
  simp only [Int.toNat_natCast, List.getD_eq_getElem?_getD, List.getElem?_set] at *
  by_cases h : k = j
  · subst h; simp [hk, hz]
  · simp [h]
/-- split's answer. -/
def splitR (xs : List S24) (k j0 : Nat) (t : ByteArray) (x y : Int) : List S24 × Int :=
  if (decide (j0 < xs.length) && cmpB (rd_T24 xs j0).f0 t == 0) = true then ([], 6) else
  if x < 1 ∨ x ≥ (rd_T24 xs k).f2 ∨ y < 1 ∨ y ≥ (rd_T24 xs k).f3 then ([], 2) else
  putR ⟨t, (rd_T24 xs k).f1, x, y⟩ (xs.set k ⟨(rd_T24 xs k).f0, (rd_T24 xs k).f1, (rd_T24 xs k).f2 - x, (rd_T24 xs k).f3 - y⟩) j0
set_option maxHeartbeats 4000000 in
set_option maxRecDepth 100000 in
theorem split65 (xs : List S24) (w : World) (base g cap k j0 : Nat) (ca : Array Value) (t : ByteArray) (x y : Int) (hT : ca[6]? = some (.string t)) (hX : ca[7]? = some (.int .i64 x)) (hY : ca[8]? = some (.int .i64 y)) (HO : Kd.R k24 24 w base (fun _ => True) (.slice (some ⟨g, 0, none⟩) xs.length cap) xs) (hbase : base ≤ w.heap.size) (hk : k < xs.length) (hn : xs.length ≤ 1000)
    (hv : (rd_T24 xs k).f2 ≤ 1000000) (hu : (rd_T24 xs k).f3 ≤ 1000) (h0 : j0 ≤ xs.length) (h1 : ∀ k : Nat, k < j0 → cmpB (rd_T24 xs k).f0 t < 0) (h2 : ∀ k : Nat, j0 ≤ k → k < xs.length → ¬ cmpB (rd_T24 xs k).f0 t < 0) :
    Calls Try.prog 65 #[.slice (some ⟨g, 0, none⟩) xs.length cap, .int .i64 k, .agg ca] w fun e w' => ∃ v', e = .returned (.tuple #[v', .int .i64 (splitR xs k j0 t x y).2]) ∧ Kd.R k24 24 w' base (fun _ => True) v' (splitR xs k j0 t x y).1 ∧ Below base w w' := by
  have hgb : base ≤ g := Kd.R_base HO g rfl
  have HO' := Aside0.mk (fun (w1 : World) (hb : Below w.heap.size w w1) => Kd.R_below HO hb)
  have HF := Aside0.mk (fun (w1 : World) (hb : Below w.heap.size w w1) => find63 t (some ⟨g, 0, none⟩) cap xs w1 (Kd.C_below (Kd.R_reads' HO).2.2 hb) hn j0 h0 h1 h2)
  have HB := Aside0.mk hbase
  have HX := Aside0.mk hX
  have HY := Aside0.mk hY
  have HT := Aside0.mk hT
  have HG := Aside0.mk hgb
  unfold splitR
  obtain ⟨b, hb⟩ : ∃ b, b = (decide (j0 < xs.length) && cmpB (rd_T24 xs j0).f0 t == 0) := ⟨_, rfl⟩
  rw [← hb] at HF ⊢
  clear hb
  cases b with
  | true =>
    rw [if_pos rfl]
    obtain ⟨n, hnn⟩ : ∃ n, n = xs.length := ⟨_, rfl⟩
    rw [← hnn] at HF ⊢
    clear HO hbase hX hY hT hgb hv hu h0 h1 h2 hk hn hnn
    go_enter Try.func65, Try.ntmps65
    go_wp2_with (first | ((with_reducible refine gate_dst (N := 5) rfl ?_); refine bx_ (N := 5) (cs := ca) (t := 34) ?_; intro gb hgb w1 hbox hb1; have BW0 := Aside0.mk hb1; have k0 := (blk_cell hbox 6).trans HT.out; clear hgb hbox hb1) | (go_at_call 63; refine (HF.out _ BW0.out).mono ?_; rintro e w' ⟨rfl, hb'⟩; have BW1 := Aside0.mk (below_then BW0.out BW0.out.size hb'); clear hb'))
    go_ret2
    exact ⟨_, rfl, Kd.R_nil _ _ _ _ _, BW1.out.mono HB.out⟩
  | false =>
    rw [if_neg (by decide)]
    have hgl : g < w.heap.size := Kd.R_lt HO g rfl
    have HGL := Aside0.mk hgl
    obtain ⟨q, hq⟩ : ∃ q, q = rd_T24 xs k := ⟨_, rfl⟩
    rw [← hq] at hv hu ⊢
    have HQ := Aside0.mk hq
    have HPUT := Aside0.mk (fun (w1 : World) (v : Value) (hR : Kd.R k24 24 w1 base (fun _ => True) v (xs.set k ⟨q.f0, q.f1, q.f2 - x, q.f3 - y⟩)) (hb : base ≤ w1.heap.size) => put62 ⟨t, q.f1, x, y⟩ (xs.set k ⟨q.f0, q.f1, q.f2 - x, q.f3 - y⟩) w1 base v hR hb (by rw [List.length_set]; exact hn) j0 (by rw [List.length_set]; exact h0) (fun j hj => by rw [rd_set_f0 xs k _ hk (by rw [hq])]; exact h1 j hj) (fun j hj hjn => by rw [rd_set_f0 xs k _ hk (by rw [hq])]; exact h2 j hj (by rw [List.length_set] at hjn; exact hjn)))
    obtain ⟨n, hnn⟩ : ∃ n, n = xs.length := ⟨_, rfl⟩
    rw [← hnn] at HF HO' hk
    rw [← hnn]
    clear HO hbase hX hY hT hgb h0 h1 h2 hn hnn hq hgl
    have hk0 : (0 : Int) ≤ (k : Int) := by omega
    have hkn : (k : Int) < (n : Int) := by omega
    by_cases c1 : x < 1
    · rw [if_pos (.inl c1)]
      have c1b : decide (x < 1) = true := decide_eq_true c1
      go_enter Try.func65, Try.ntmps65
      go_wp2_with (first | ((with_reducible refine gate_dst (N := 5) rfl ?_); refine bx_ (N := 5) (cs := ca) (t := 34) ?_; intro gb hgb w1 hbox hb1; have BW0 := Aside0.mk hb1; have BK := Aside0.mk hbox; have k6 := (blk_cell hbox 6).trans HT.out; have NG := Aside0.mk (show gb ≠ g by have := HGL.out; omega); clear hgb hbox hb1) | (go_at_call 63; refine (HF.out _ BW0.out).mono ?_; rintro e w' ⟨rfl, hb'⟩; have BW1 := Aside0.mk (below_then BW0.out BW0.out.size hb'); have BK1 := (hb'.block _ (blk_lt BK.out)).trans BK.out; have z6 := (blk_cell BK1 6).trans HT.out; have z7 := (blk_cell BK1 7).trans HX.out; have z8 := (blk_cell BK1 8).trans HY.out; obtain ⟨y0, y1, y2, y3, yf⟩ := elem24 (HO'.out _ BW1.out) k hk; rw [← HQ.out] at y0 y1 y2 y3; clear hb' BK1))
      go_quiet (fail)
      go_wp2
      go_ret2
      exact ⟨_, rfl, Kd.R_nil _ _ _ _ _, Below.mono (pw_below_drewN BW1.out _) HB.out⟩
    have c1b : decide (x < 1) = false := decide_eq_false c1
    by_cases c2 : x ≥ q.f2
    · rw [if_pos (.inr (.inl c2))]
      have c2b : decide (q.f2 ≤ x) = true := decide_eq_true c2
      go_enter Try.func65, Try.ntmps65
      go_wp2_with (first | ((with_reducible refine gate_dst (N := 5) rfl ?_); refine bx_ (N := 5) (cs := ca) (t := 34) ?_; intro gb hgb w1 hbox hb1; have BW0 := Aside0.mk hb1; have BK := Aside0.mk hbox; have k6 := (blk_cell hbox 6).trans HT.out; have NG := Aside0.mk (show gb ≠ g by have := HGL.out; omega); clear hgb hbox hb1) | (go_at_call 63; refine (HF.out _ BW0.out).mono ?_; rintro e w' ⟨rfl, hb'⟩; have BW1 := Aside0.mk (below_then BW0.out BW0.out.size hb'); have BK1 := (hb'.block _ (blk_lt BK.out)).trans BK.out; have z6 := (blk_cell BK1 6).trans HT.out; have z7 := (blk_cell BK1 7).trans HX.out; have z8 := (blk_cell BK1 8).trans HY.out; obtain ⟨y0, y1, y2, y3, yf⟩ := elem24 (HO'.out _ BW1.out) k hk; rw [← HQ.out] at y0 y1 y2 y3; clear hb' BK1))
      go_quiet (fail)
      go_wp2
      go_ret2
      exact ⟨_, rfl, Kd.R_nil _ _ _ _ _, Below.mono (pw_below_drewN BW1.out _) HB.out⟩
    have c2b : decide (q.f2 ≤ x) = false := decide_eq_false c2
    by_cases c3 : y < 1
    · rw [if_pos (.inr (.inr (.inl c3)))]
      have c3b : decide (y < 1) = true := decide_eq_true c3
      go_enter Try.func65, Try.ntmps65
      go_wp2_with (first | ((with_reducible refine gate_dst (N := 5) rfl ?_); refine bx_ (N := 5) (cs := ca) (t := 34) ?_; intro gb hgb w1 hbox hb1; have BW0 := Aside0.mk hb1; have BK := Aside0.mk hbox; have k6 := (blk_cell hbox 6).trans HT.out; have NG := Aside0.mk (show gb ≠ g by have := HGL.out; omega); clear hgb hbox hb1) | (go_at_call 63; refine (HF.out _ BW0.out).mono ?_; rintro e w' ⟨rfl, hb'⟩; have BW1 := Aside0.mk (below_then BW0.out BW0.out.size hb'); have BK1 := (hb'.block _ (blk_lt BK.out)).trans BK.out; have z6 := (blk_cell BK1 6).trans HT.out; have z7 := (blk_cell BK1 7).trans HX.out; have z8 := (blk_cell BK1 8).trans HY.out; obtain ⟨y0, y1, y2, y3, yf⟩ := elem24 (HO'.out _ BW1.out) k hk; rw [← HQ.out] at y0 y1 y2 y3; clear hb' BK1))
      go_quiet (fail)
      go_wp2
      go_ret2
      exact ⟨_, rfl, Kd.R_nil _ _ _ _ _, Below.mono (pw_below_drewN BW1.out _) HB.out⟩
    have c3b : decide (y < 1) = false := decide_eq_false c3
    by_cases c4 : y ≥ q.f3
    · rw [if_pos (.inr (.inr (.inr c4)))]
      have c4b : decide (q.f3 ≤ y) = true := decide_eq_true c4
      go_enter Try.func65, Try.ntmps65
      go_wp2_with (first | ((with_reducible refine gate_dst (N := 5) rfl ?_); refine bx_ (N := 5) (cs := ca) (t := 34) ?_; intro gb hgb w1 hbox hb1; have BW0 := Aside0.mk hb1; have BK := Aside0.mk hbox; have k6 := (blk_cell hbox 6).trans HT.out; have NG := Aside0.mk (show gb ≠ g by have := HGL.out; omega); clear hgb hbox hb1) | (go_at_call 63; refine (HF.out _ BW0.out).mono ?_; rintro e w' ⟨rfl, hb'⟩; have BW1 := Aside0.mk (below_then BW0.out BW0.out.size hb'); have BK1 := (hb'.block _ (blk_lt BK.out)).trans BK.out; have z6 := (blk_cell BK1 6).trans HT.out; have z7 := (blk_cell BK1 7).trans HX.out; have z8 := (blk_cell BK1 8).trans HY.out; obtain ⟨y0, y1, y2, y3, yf⟩ := elem24 (HO'.out _ BW1.out) k hk; rw [← HQ.out] at y0 y1 y2 y3; clear hb' BK1))
      go_quiet (fail)
      go_wp2
      go_ret2
      exact ⟨_, rfl, Kd.R_nil _ _ _ _ _, Below.mono (pw_below_drewN BW1.out _) HB.out⟩
    have c4b : decide (q.f3 ≤ y) = false := decide_eq_false c4
    rw [if_neg (fun h => h.elim c1 (fun h => h.elim c2 (fun h => h.elim c3 c4)))]
    have hw1 : IntKind.i64.wrap (q.f2 - x) = q.f2 - x := by rw [IntKind.wrap_i64]; omega
    have hw2 : IntKind.i64.wrap (q.f3 - y) = q.f3 - y := by rw [IntKind.wrap_i64]; omega
    go_enter Try.func65, Try.ntmps65
    go_wp2_with (first | ((with_reducible refine gate_dst (N := 5) rfl ?_); refine bx_ (N := 5) (cs := ca) (t := 34) ?_; intro gb hgb w1 hbox hb1; have BW0 := Aside0.mk hb1; have BK := Aside0.mk hbox; have k6 := (blk_cell hbox 6).trans HT.out; have NG := Aside0.mk (show gb ≠ g by have := HGL.out; omega); clear hgb hbox hb1) | (go_at_call 63; refine (HF.out _ BW0.out).mono ?_; rintro e w' ⟨rfl, hb'⟩; have BW1 := Aside0.mk (below_then BW0.out BW0.out.size hb'); have BK1 := (hb'.block _ (blk_lt BK.out)).trans BK.out; have z6 := (blk_cell BK1 6).trans HT.out; have z7 := (blk_cell BK1 7).trans HX.out; have z8 := (blk_cell BK1 8).trans HY.out; obtain ⟨y0, y1, y2, y3, yf⟩ := elem24 (HO'.out _ BW1.out) k hk; rw [← HQ.out] at y0 y1 y2 y3; have BKK := Aside0.mk BK1; clear hb' BK1))
    go_quiet (fail)
    go_wp2
    go_region
    go_wp2
    have hR2 := set24_23 (Kd.R_drewN (HO'.out _ BW1.out) (nq + 1)) k hk q HQ.out (q.f2 - x) (q.f3 - y)
    have hB2 : Below base w (((w'.drewN (nq + 1)).setCell ⟨g, k * 4 + 2, none⟩ (.int .i64 (q.f2 - x))).setCell ⟨g, k * 4 + 3, none⟩ (.int .i64 (q.f3 - y))) := Below.setCell (Below.setCell (Below.mono (pw_below_drewN BW1.out (nq + 1)) HB.out) HG.out _) HG.out _
    have hbk : (((w'.drewN (nq + 1)).setCell ⟨g, k * 4 + 2, none⟩ (.int .i64 (q.f2 - x))).setCell ⟨g, k * 4 + 3, none⟩ (.int .i64 (q.f3 - y))).heap[gb]? = some (.cells ca 34 (0, 0)) := (Below.heap_setCell _ _ _ gb NG.out).trans ((Below.heap_setCell _ _ _ gb NG.out).trans (blk_drewN BKK.out (nq + 1)))
    clear z6 z7 z8 y0 y1 y2 y3 yf k6
    generalize ((w'.drewN (nq + 1)).setCell ⟨g, k * 4 + 2, none⟩ (.int .i64 (q.f2 - x))).setCell ⟨g, k * 4 + 3, none⟩ (.int .i64 (q.f3 - y)) = W2 at hR2 hB2 hbk ⊢
    have z6 := (blk_cell hbk 6).trans HT.out
    have z7 := (blk_cell hbk 7).trans HX.out
    have z8 := (blk_cell hbk 8).trans HY.out
    have y1 := (elem24 hR2 k hk).2.1
    have hrd : (rd_T24 (xs.set k ⟨q.f0, q.f1, q.f2 - x, q.f3 - y⟩) k).f1 = q.f1 := by
      have hl : n = xs.length := by have := (Kd.R_reads' hR2).1; rw [List.length_set] at this; exact this
      show ((xs.set k _).getD (Int.toNat (k : Int)) z24).f1 = _
      rw [Int.toNat_natCast, List.getD_eq_getElem?_getD, List.getElem?_set_self (by omega)]
      rfl
    rw [hrd] at y1
    have HR2 := Aside0.mk hR2
    have HB2 := Aside0.mk hB2
    clear hR2 hB2 hbk hrd
    refine start_ (n := 17) (S := fun w' => w'.cell? ⟨gb, 6, none⟩ = some (.string t) ∧ w'.cell? ⟨g, k * 4 + 1, none⟩ = some (.string q.f1) ∧ w'.cell? ⟨gb, 7, none⟩ = some (.int .i64 x) ∧ w'.cell? ⟨gb, 8, none⟩ = some (.int .i64 y)) (ds := [12]) q17_0 t_8e rfl rfl ⟨z6, y1, z7, z8⟩ (fun hHeld => ?_)
    refine p_ (i := 0) (N := some 68) q17_1 rfl rfl t_8e ?_
    refine p_ (i := 1) (N := some 69) q17_3 rfl rfl t_8e ?_
    refine p_ (i := 3) (N := some 71) q17_b rfl rfl t_8e ?_
    refine p_ (i := 4) (N := some 72) q17_1b rfl rfl t_8e ?_
    refine p_ (i := 5) (N := some 73) q17_3b rfl rfl t_8e ?_
    refine p_ (i := 7) (N := some 75) q17_bb rfl rfl t_8e ?_
    refine p_ (i := 9) (N := some 77) q17_2bb rfl rfl t_8e ?_
    refine k_ (i := 2) (N := some 70) q17_2bf rfl rfl t_8e (Or.inl ⟨rfl, t_73⟩) hHeld ?_
    refine k_ (i := 6) (N := some 74) q17_2ff rfl rfl t_8e (Or.inl ⟨rfl, t_73⟩) hHeld ?_
    refine k_ (i := 8) (N := some 76) q17_3ff rfl rfl t_8e (Or.inl ⟨rfl, t_73⟩) hHeld ?_
    refine k_ (i := 10) (N := some 78) q17_7ff rfl rfl t_8e (Or.inl ⟨rfl, t_73⟩) hHeld ?_
    refine p_ (i := 11) (N := some 79) q17_fff rfl rfl t_8e ?_
    refine last_ (i := 12) (N := some 80) q17_1fff rfl rfl t_8e (by decide) (fun K hK => ?_)
    refine goes_ Try.func62 t_8e rfl #[.slice (some ⟨g, 0, none⟩) n cap, .agg #[.string t, .string q.f1, .int .i64 x, .int .i64 y]] (by rfl) rfl rfl t_6e ?_
    with_reducible refine (HPUT.out _ _ (Kd.R_drew HR2.out) (Nat.le_trans HB.out (below_drew HB2.out).size)).mono ?_
    rintro e w'' ⟨v', rfl, hR, hB3, _⟩
    refine ⟨_, rfl, ?_⟩
    have HFIN := Aside0.mk (⟨hR, (below_drew HB2.out).trans hB3⟩ : Kd.R k24 24 w'' base (fun _ => True) v' (putR ⟨t, q.f1, x, y⟩ (xs.set k ⟨q.f0, q.f1, q.f2 - x, q.f3 - y⟩) j0).1 ∧ Below base w w'')
    clear hR hB3
    refine hK.out _ _ ?_
    clear hK K
    refine norm_ (by show Act.put _ (some 80) _ = _; simp only [Act.put, List.setIfInBounds_toArray, List.set_cons_zero, List.set_cons_succ, i64_w, i32_w]; rfl) ?_
    refine p_ (i := 13) (N := some 81) q17_3fff rfl rfl t_8e ?_
    refine p_ (i := 14) (N := some 82) q17_7fff rfl rfl t_8e ?_
    refine p_ (i := 15) (N := some 6) q17_ffff rfl rfl t_8e ?_
    refine p_ (i := 16) (N := some 7) q17_1ffff rfl rfl t_8e ?_
    refine done_ t_8e ?_
    go_wp2
    go_ret2
    exact ⟨_, rfl, HFIN.out.1, HFIN.out.2⟩
end
section
open Go.RowKit Go.Proofs Go.Proofs.YtndbchcfjajgbaaW.PrintWords Go.Proofs.YtndbchcfjajgbaaW.PrintLast Go.Proofs.Ytndbchcfjajgbaa.XH
set_option linter.unusedVariables false
set_option linter.unusedSimpArgs false
/-- The sum of two pieces, in the place of the first. -/
def sumP (a b : S24) : S24 := ⟨a.f0, a.f1, a.f2 + b.f2, a.f3 + b.f3⟩
/-- join's answer. -/
def joinR (xs : List S24) (k j0 : Nat) (t : ByteArray) : List S24 × Int :=
  if (decide (j0 < xs.length) && cmpB (rd_T24 xs j0).f0 t == 0) = true then
    (if j0 = k ∨ ¬ ((rd_T24 xs j0).f1.toList == (rd_T24 xs k).f1.toList) = true then ([], 9)
    else if (rd_T24 xs j0).f2 + (rd_T24 xs k).f2 > 1000000 ∨ (rd_T24 xs j0).f3 + (rd_T24 xs k).f3 > 1000 then ([], 2)
    else ((xs.set j0 (sumP (rd_T24 xs j0) (rd_T24 xs k))).eraseIdx k, 0))
  else ([], 7)
set_option maxHeartbeats 4000000 in
set_option maxRecDepth 100000 in
theorem join66 (xs : List S24) (w : World) (base g cap k j0 : Nat) (ca : Array Value) (t : ByteArray) (hT : ca[6]? = some (.string t)) (HO : Kd.R k24 24 w base (fun _ => True) (.slice (some ⟨g, 0, none⟩) xs.length cap) xs) (hbase : base ≤ w.heap.size) (hk : k < xs.length) (hn : xs.length ≤ 1000)
    (hv : ∀ i : Nat, i < xs.length → 1 ≤ (rd_T24 xs i).f2 ∧ (rd_T24 xs i).f2 ≤ 1000000 ∧ 1 ≤ (rd_T24 xs i).f3 ∧ (rd_T24 xs i).f3 ≤ 1000) (h0 : j0 ≤ xs.length) (h1 : ∀ k : Nat, k < j0 → cmpB (rd_T24 xs k).f0 t < 0) (h2 : ∀ k : Nat, j0 ≤ k → k < xs.length → ¬ cmpB (rd_T24 xs k).f0 t < 0) :
    Calls Try.prog 66 #[.slice (some ⟨g, 0, none⟩) xs.length cap, .int .i64 k, .agg ca] w fun e w' => ∃ v', e = .returned (.tuple #[v', .int .i64 (joinR xs k j0 t).2]) ∧ Kd.R k24 24 w' base (fun _ => True) v' (joinR xs k j0 t).1 ∧ Below base w w' := by
  have hgb : base ≤ g := Kd.R_base HO g rfl
  have HO' := Aside0.mk (fun (w1 : World) (hb : Below w.heap.size w w1) => Kd.R_below HO hb)
  have HF := Aside0.mk (fun (w1 : World) (hb : Below w.heap.size w w1) => find63 t (some ⟨g, 0, none⟩) cap xs w1 (Kd.C_below (Kd.R_reads' HO).2.2 hb) hn j0 h0 h1 h2)
  have HB := Aside0.mk hbase
  have HT := Aside0.mk hT
  have HG := Aside0.mk hgb
  have hgl : g < w.heap.size := Kd.R_lt HO g rfl
  have HGL := Aside0.mk hgl
  unfold joinR
  obtain ⟨b, hb⟩ : ∃ b, b = (decide (j0 < xs.length) && cmpB (rd_T24 xs j0).f0 t == 0) := ⟨_, rfl⟩
  have hj : b = true → j0 < xs.length := fun h => by rw [hb, Bool.and_eq_true] at h; exact of_decide_eq_true h.1
  rw [← hb] at HF ⊢
  clear hb
  cases b with
  | false =>
    rw [if_neg (by decide)]
    obtain ⟨n, hnn⟩ : ∃ n, n = xs.length := ⟨_, rfl⟩
    rw [← hnn] at HF ⊢
    clear HO hbase hT hgb hv h0 h1 h2 hk hn hnn hj hgl
    go_enter Try.func66, Try.ntmps66
    go_wp2_with (first | ((with_reducible refine gate_dst (N := 5) rfl ?_); refine bx_ (N := 5) (cs := ca) (t := 34) ?_; intro gb hgb w1 hbox hb1; have BW0 := Aside0.mk hb1; have k0 := (blk_cell hbox 6).trans HT.out; clear hgb hbox hb1) | (go_at_call 63; refine (HF.out _ BW0.out).mono ?_; rintro e w' ⟨rfl, hb'⟩; have BW1 := Aside0.mk (below_then BW0.out BW0.out.size hb'); clear hb'))
    go_ret2
    exact ⟨_, rfl, Kd.R_nil _ _ _ _ _, BW1.out.mono HB.out⟩
  | true =>
    rw [if_pos rfl]
    have hj0 : j0 < xs.length := hj rfl
    obtain ⟨hv1, hv2, hv3, hv4⟩ := hv j0 hj0
    obtain ⟨hu1, hu2, hu3, hu4⟩ := hv k hk
    obtain ⟨p, hp⟩ : ∃ p, p = rd_T24 xs j0 := ⟨_, rfl⟩
    obtain ⟨q, hq⟩ : ∃ q, q = rd_T24 xs k := ⟨_, rfl⟩
    rw [← hp] at hv1 hv2 hv3 hv4 ⊢
    rw [← hq] at hu1 hu2 hu3 hu4 ⊢
    have HP := Aside0.mk hp
    have HQ := Aside0.mk hq
    have HD := Aside0.mk (fun (w1 : World) (hR : Kd.R k24 24 w1 base (fun _ => True) (.slice (some ⟨g, 0, none⟩) xs.length cap) (xs.set j0 (sumP p q))) (hb : base ≤ w1.heap.size) => del105 (xs.set j0 (sumP p q)) w1 base g cap k (fun _ => True) (by rw [List.length_set]; exact hR) hb (by rw [List.length_set]; exact hk) (by rw [List.length_set]; exact hn))
    rw [List.length_set] at HD
    obtain ⟨n, hnn⟩ : ∃ n, n = xs.length := ⟨_, rfl⟩
    rw [← hnn] at HF HO' hk hj0 HD hn ⊢
    clear HO hbase hT hgb hv h0 h1 h2 hp hq hj hgl hnn
    have hk0 : (0 : Int) ≤ (k : Int) := by omega
    have hkn : (k : Int) < (n : Int) := by omega
    have hj00 : (0 : Int) ≤ (j0 : Int) := by omega
    have hj0n : (j0 : Int) < (n : Int) := by omega
    have hw1 : IntKind.i64.wrap (p.f2 + q.f2) = p.f2 + q.f2 := by rw [IntKind.wrap_i64]; omega
    have hw2 : IntKind.i64.wrap (p.f3 + q.f3) = p.f3 + q.f3 := by rw [IntKind.wrap_i64]; omega
    have hw3 : IntKind.i64.wrap ((k : Int) + 1) = (k : Int) + 1 := by rw [IntKind.wrap_i64]; omega
    clear hv1 hv2 hv3 hv4 hu1 hu2 hu3 hu4
    by_cases c1 : j0 = k
    · rw [if_pos (.inl c1)]
      subst c1
      go_enter Try.func66, Try.ntmps66
      go_wp2_with (first | ((with_reducible refine gate_dst (N := 5) rfl ?_); refine bx_ (N := 5) (cs := ca) (t := 34) ?_; intro gb hgb w1 hbox hb1; have BW0 := Aside0.mk hb1; have k0 := (blk_cell hbox 6).trans HT.out; clear hgb hbox hb1) | (go_at_call 63; refine (HF.out _ BW0.out).mono ?_; rintro e w' ⟨rfl, hb'⟩; have BW1 := Aside0.mk (below_then BW0.out BW0.out.size hb'); clear hb'))
      go_quiet (fail)
      go_wp2
      go_ret2
      exact ⟨_, rfl, Kd.R_nil _ _ _ _ _, Below.mono (pw_below_drewN BW1.out _) HB.out⟩
    have c1a : ((j0 : Int) == (k : Int)) = false := beq_eq_false_iff_ne.2 (by omega)
    have c1b : (j0 == k) = false := beq_eq_false_iff_ne.2 c1
    have c1c : decide ((j0 : Int) = (k : Int)) = false := decide_eq_false (by omega)
    have c1d : decide (j0 = k) = false := decide_eq_false c1
    by_cases c2 : (p.f1.toList == q.f1.toList) = false
    · rw [if_pos (.inr (by rw [c2]; decide))]
      have c2b : (p.f1.toList != q.f1.toList) = true := by simp only [bne, c2]; rfl
      go_enter Try.func66, Try.ntmps66
      go_wp2_with (first | ((with_reducible refine gate_dst (N := 5) rfl ?_); refine bx_ (N := 5) (cs := ca) (t := 34) ?_; intro gb hgb w1 hbox hb1; have BW0 := Aside0.mk hb1; have k0 := (blk_cell hbox 6).trans HT.out; clear hgb hbox hb1) | (go_at_call 63; refine (HF.out _ BW0.out).mono ?_; rintro e w' ⟨rfl, hb'⟩; have BW1 := Aside0.mk (below_then BW0.out BW0.out.size hb'); obtain ⟨y0, y1, y2, y3, yf⟩ := elem24 (HO'.out _ BW1.out) k hk; rw [← HQ.out] at y0 y1 y2 y3; obtain ⟨x0, x1, x2, x3, xf⟩ := elem24 (HO'.out _ BW1.out) j0 hj0; rw [← HP.out] at x0 x1 x2 x3; clear hb'))
      go_quiet (fail)
      go_wp2
      go_ret2
      exact ⟨_, rfl, Kd.R_nil _ _ _ _ _, Below.mono (pw_below_drewN BW1.out _) HB.out⟩
    have c2a : (p.f1.toList == q.f1.toList) = true := by simpa using c2
    rw [if_neg (fun h => h.elim c1 (fun h => h c2a))]
    have c2b : (p.f1.toList != q.f1.toList) = false := by simp only [bne, c2a]; rfl
    clear c2
    by_cases c3 : p.f2 + q.f2 > 1000000
    · rw [if_pos (.inl c3)]
      have c3b : decide (1000000 < p.f2 + q.f2) = true := decide_eq_true c3
      go_enter Try.func66, Try.ntmps66
      go_wp2_with (first | ((with_reducible refine gate_dst (N := 5) rfl ?_); refine bx_ (N := 5) (cs := ca) (t := 34) ?_; intro gb hgb w1 hbox hb1; have BW0 := Aside0.mk hb1; have k0 := (blk_cell hbox 6).trans HT.out; clear hgb hbox hb1) | (go_at_call 63; refine (HF.out _ BW0.out).mono ?_; rintro e w' ⟨rfl, hb'⟩; have BW1 := Aside0.mk (below_then BW0.out BW0.out.size hb'); obtain ⟨y0, y1, y2, y3, yf⟩ := elem24 (HO'.out _ BW1.out) k hk; rw [← HQ.out] at y0 y1 y2 y3; obtain ⟨x0, x1, x2, x3, xf⟩ := elem24 (HO'.out _ BW1.out) j0 hj0; rw [← HP.out] at x0 x1 x2 x3; clear hb'))
      go_quiet (fail)
      go_wp2
      go_quiet (fail)
      go_wp2
      go_ret2
      exact ⟨_, rfl, Kd.R_nil _ _ _ _ _, Below.mono (pw_below_drewN (pw_below_drewN BW1.out _) _) HB.out⟩
    have c3b : decide (1000000 < p.f2 + q.f2) = false := decide_eq_false c3
    by_cases c4 : p.f3 + q.f3 > 1000
    · rw [if_pos (.inr c4)]
      have c4b : decide (1000 < p.f3 + q.f3) = true := decide_eq_true c4
      go_enter Try.func66, Try.ntmps66
      go_wp2_with (first | ((with_reducible refine gate_dst (N := 5) rfl ?_); refine bx_ (N := 5) (cs := ca) (t := 34) ?_; intro gb hgb w1 hbox hb1; have BW0 := Aside0.mk hb1; have k0 := (blk_cell hbox 6).trans HT.out; clear hgb hbox hb1) | (go_at_call 63; refine (HF.out _ BW0.out).mono ?_; rintro e w' ⟨rfl, hb'⟩; have BW1 := Aside0.mk (below_then BW0.out BW0.out.size hb'); obtain ⟨y0, y1, y2, y3, yf⟩ := elem24 (HO'.out _ BW1.out) k hk; rw [← HQ.out] at y0 y1 y2 y3; obtain ⟨x0, x1, x2, x3, xf⟩ := elem24 (HO'.out _ BW1.out) j0 hj0; rw [← HP.out] at x0 x1 x2 x3; clear hb'))
      go_quiet (fail)
      go_wp2
      go_quiet (fail)
      go_wp2
      go_ret2
      exact ⟨_, rfl, Kd.R_nil _ _ _ _ _, Below.mono (pw_below_drewN (pw_below_drewN BW1.out _) _) HB.out⟩
    have c4b : decide (1000 < p.f3 + q.f3) = false := decide_eq_false c4
    rw [if_neg (fun h => h.elim c3 c4)]
    go_enter Try.func66, Try.ntmps66
    go_wp2_with (first | ((with_reducible refine gate_dst (N := 5) rfl ?_); refine bx_ (N := 5) (cs := ca) (t := 34) ?_; intro gb hgb w1 hbox hb1; have BW0 := Aside0.mk hb1; have k0 := (blk_cell hbox 6).trans HT.out; clear hgb hbox hb1) | (go_at_call 63; refine (HF.out _ BW0.out).mono ?_; rintro e w' ⟨rfl, hb'⟩; have BW1 := Aside0.mk (below_then BW0.out BW0.out.size hb'); obtain ⟨y0, y1, y2, y3, yf⟩ := elem24 (HO'.out _ BW1.out) k hk; rw [← HQ.out] at y0 y1 y2 y3; obtain ⟨x0, x1, x2, x3, xf⟩ := elem24 (HO'.out _ BW1.out) j0 hj0; rw [← HP.out] at x0 x1 x2 x3; clear hb'))
    go_quiet (fail)
    go_wp2
    go_quiet (fail)
    go_wp2
    go_region
    go_wp2_with (go_at_call 105; refine (HD.out _ (set24_23 (by repeat (first | exact HO'.out _ BW1.out | apply Kd.R_drewN | apply Kd.R_drew)) j0 hj0 p HP.out (p.f2 + q.f2) (p.f3 + q.f3)) (Nat.le_trans HB.out (Below.size (Below.setCell (Below.setCell (by repeat (first | exact BW1.out.mono HB.out | apply pw_below_drewN | apply below_drew1)) HG.out _) HG.out _ : Below base w _)))).mono ?_; rintro e w'' ⟨rfl, hR, hb'⟩; have HFIN := Aside0.mk (⟨hR, (Below.setCell (Below.setCell (by repeat (first | exact BW1.out.mono HB.out | apply pw_below_drewN | apply below_drew1)) HG.out _) HG.out _ : Below base w _).trans hb'⟩ : Kd.R k24 24 w'' base (fun _ => True) (.slice (some ⟨g, 0, none⟩) (n - 1) cap) ((xs.set j0 (sumP p q)).eraseIdx k) ∧ Below base w w''); clear hR hb')
    go_ret2
    exact ⟨_, rfl, HFIN.out.1, HFIN.out.2⟩
end
end Go.Proofs.Ytndbchcfjajgbaa.XP
