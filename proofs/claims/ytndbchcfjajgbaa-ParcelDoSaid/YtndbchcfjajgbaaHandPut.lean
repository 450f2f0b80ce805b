/- culetref53.put, walked: a list without a key, and the piece where it stands. -/
import Derived.Test.YtndbchcfjajgbaaHandIns
import Derived.Test.YtndbchcfjajgbaaXE
import Derived.Test.YtndbchcfjajgbaaXP13
namespace Go.Proofs.Ytndbchcfjajgbaa.XP
open Go.RowKit Go.Proofs Go.Proofs.YtndbchcfjajgbaaW.PrintWords Go.Proofs.YtndbchcfjajgbaaW.PrintLast Go.Proofs.Ytndbchcfjajgbaa.XH Go.Proofs.Ytndbchcfjajgbaa.XE
set_option linter.unusedVariables false
set_option linter.unusedSimpArgs false
def withoutP (l : List S24) (s : ByteArray) : List S24 := l.filter fun y => !decide (y.f0.toList = s.toList)
/-- The place of a key. -/
def placeW (s : ByteArray) : List S24 → Nat
  | [] => 0
  | x :: l => if Op.bytesLess x.f0.toList s.toList = true then placeW s l + 1 else 0
theorem placeW_le (s : ByteArray) : ∀ l : List S24, placeW s l ≤ l.length
  | [] => Nat.le_refl _
  | x :: l => by unfold placeW; have := placeW_le s l; split <;> simp <;> omega
theorem without_loop (s : ByteArray) (l : List S24) (hn : l.length ≤ 1000) : ∀ (d i k : Nat) (acc : List S24), i + d = l.length → d < k → acc.length ≤ i → culetref53_without.l0 k l s acc (i : Int) = some (acc ++ withoutP (l.drop i) s)
  | 0, i, k, acc, h, hk, ha => by
    obtain ⟨k, rfl⟩ : ∃ m, k = m + 1 := ⟨k - 1, by omega⟩
    simp only [culetref53_without.l0]
    rw [if_neg (by omega), List.drop_of_length_le (by omega)]
    simp [withoutP]
  | d + 1, i, k, acc, h, hk, ha => by
    obtain ⟨k, rfl⟩ : ∃ m, k = m + 1 := ⟨k - 1, by omega⟩
    have hlt : i < l.length := by omega
    have e : rd_T24 l (i : Int) = l[i] := by unfold rd_T24; simp [List.getD_eq_getElem?_getD, hlt]
    simp only [culetref53_without.l0]
    rw [if_pos (by omega), if_pos (by omega), e, show wrap64 ((i : Int) + 1) = ((i + 1 : Nat) : Int) by unfold wrap64; omega, List.drop_eq_getElem_cons hlt]
    by_cases h1 : l[i].f0.toList = s.toList
    · rw [if_pos h1, without_loop s l hn d (i + 1) k acc (by omega) (by omega) (by omega)]
      unfold withoutP
      rw [List.filter_cons, if_neg (by simp [h1])]
    · rw [if_neg h1, if_pos (by omega), without_loop s l hn d (i + 1) k _ (by omega) (by omega) (by simp; omega)]
      unfold withoutP
      rw [List.filter_cons, if_pos (by simp [h1]), List.append_assoc]
      rfl
theorem without_eq (l : List S24) (s : ByteArray) (hn : l.length ≤ 1000) (k : Nat) (hk : l.length < k) : culetref53_without.f k l s = some (withoutP l s) := by
  unfold culetref53_without.f
  have := without_loop s l hn l.length 0 k [] (by omega) hk (by simp)
  simpa using this
theorem withoutP_len (l : List S24) (s : ByteArray) : (withoutP l s).length ≤ l.length := List.length_filter_le _ _
def putP (l : List S24) (p : S24) : List S24 := (withoutP l p.f0).take (placeW p.f0 (withoutP l p.f0)) ++ p :: (withoutP l p.f0).drop (placeW p.f0 (withoutP l p.f0))
def culetref53_put.f (l0 : List (S24)) (a1_0 : ByteArray) (a1_1 : ByteArray) (a1_2 : Int) (a1_3 : Int) : Option ((List (S24))) := if l0.length ≤ 1000 then some (putP l0 ⟨a1_0, a1_1, a1_2, a1_3⟩) else none
theorem rdc24 (x : S24) (l : List S24) (i : Nat) : rd_T24 (x :: l) ((i + 1 : Nat) : Int) = rd_T24 l (i : Int) := by unfold rd_T24; simp [List.getD_eq_getElem?_getD]
theorem rdz24 (x : S24) (l : List S24) : rd_T24 (x :: l) ((0 : Nat) : Int) = x := rfl
theorem place_lt (s : ByteArray) : ∀ (l : List S24) (i : Nat), i < placeW s l → Op.bytesLess (rd_T24 l (i : Int)).f0.toList s.toList = true
  | [], i, h => by simp [placeW] at h
  | x :: l, i, h => by
    unfold placeW at h
    by_cases c : Op.bytesLess x.f0.toList s.toList = true
    · rw [if_pos c] at h
      cases i with
      | zero => rw [rdz24]; exact c
      | succ i => rw [rdc24]; exact place_lt s l i (by omega)
    · rw [if_neg c] at h; omega
theorem place_at (s : ByteArray) : ∀ (l : List S24), placeW s l < l.length → Op.bytesLess (rd_T24 l (placeW s l : Int)).f0.toList s.toList = false
  | [], h => by simp at h
  | x :: l, h => by
    by_cases c : Op.bytesLess x.f0.toList s.toList = true
    · have e : placeW s (x :: l) = placeW s l + 1 := by rw [placeW, if_pos c]
      rw [e] at h ⊢
      rw [rdc24]
      exact place_at s l (by simpa using h)
    · have e : placeW s (x :: l) = 0 := by rw [placeW, if_neg c]
      rw [e, rdz24]
      exact Bool.eq_false_iff.2 c
set_option maxHeartbeats 4000000 in
set_option maxRecDepth 100000 in
theorem put72 (A0 : Option Addr) (n0 c0 : Nat) (p : S24) (r : List S24) (hrl : r.length ≤ 1000) (w : World)
    (HW : Aside0 (∀ w1 : World, Below w.heap.size w w1 → Calls Try.prog 73 #[.slice A0 n0 c0, .string p.f0] w1 fun e w' => ∃ v', e = .returned v' ∧ Kd.R k24 24 w' w1.heap.size (fun _ => True) v' r ∧ Below w1.heap.size w1 w')) :
    Calls Try.prog 72 #[.slice A0 n0 c0, .agg #[.string p.f0, .string p.f1, .int .i64 p.f2, .int .i64 p.f3]] w fun e w' => ∃ v', e = .returned v' ∧ Kd.R k24 24 w' w.heap.size (fun _ => True) v' (r.take (placeW p.f0 r) ++ p :: r.drop (placeW p.f0 r)) ∧ Below w.heap.size w w' := by
  obtain ⟨q, hq⟩ : ∃ q, q = placeW p.f0 r := ⟨_, rfl⟩
  have HQ := Aside0.mk hq
  have HQL := Aside0.mk (show q ≤ r.length by rw [hq]; exact placeW_le _ _)
  rw [← hq]
  obtain ⟨n, hn⟩ : ∃ n, n = r.length := ⟨_, rfl⟩
  have HN := Aside0.mk hn
  rw [← hn] at hrl
  clear hq hn
  go_enter Try.func72, Try.ntmps72
  go_upto_block 0 with (first | ((with_reducible refine gate_dst (N := 3) rfl ?_); refine box_event ?hg (N := 3) ?hd (cs := #[.string p.f0, .string p.f1, .int .i64 p.f2, .int .i64 p.f3]) (t := 24) ?hr ?_; (case hd => rfl); (case hg => rfl); (case hr => first | (go_simp; done) | (go_simp; rfl)); intro gb hgb w1 hbox hb1; have GB := Aside0.mk (Nat.le_of_eq hgb.symm); have BW := Aside0.mk hb1; have BK := Aside0.mk hbox; have k0 := (blk_cell hbox 0).trans rfl; clear hgb hbox hb1) | (go_at_call 73; refine (HW.out _ BW.out).mono ?_; rintro e w2 ⟨vr, rfl, hR, hB2⟩; have BK2 := Aside0.mk ((hB2.block gb (blk_lt BK.out)).trans BK.out); have BW2 := Aside0.mk (below_then BW.out BW.out.size hB2); obtain ⟨A, cr, rfl, hcr, hC⟩ := Kd.R_reads hR; rw [← HN.out] at hC hcr ⊢; have HC := Aside0.mk hC; have HCR := Aside0.mk hcr; clear hR hB2 hC hcr k0))
  go_cut [6] (fun v6 wc => v6 = .int .i64 q ∧ Aside0 (wc.heap[gb]? = some (.cells #[.string p.f0, .string p.f1, .int .i64 p.f2, .int .i64 p.f3] 24 (0, 0))) ∧ Aside0 (Below w.heap.size w wc) ∧ Aside0 (Kd.C k24 wc A n r))
  case first =>
    have HLT := Aside0.mk (show ∀ i : Nat, i < q → Op.bytesLess (rd_T24 r (i : Int)).f0.toList p.f0.toList = true from fun i hi => place_lt _ _ i (by rw [← HQ.out]; exact hi))
    have HAT := Aside0.mk (show q < r.length → Op.bytesLess (rd_T24 r (q : Int)).f0.toList p.f0.toList = false from fun hi => by have h := place_at p.f0 r; rw [← HQ.out] at h; exact h hi)
    rw [← HN.out] at HAT HQL
    go_wp2
    go_loopg [6] q (fun gg v6 wr => ∃ i : Nat, i ≤ q ∧ q - i ≤ gg ∧ v6 = .int .i64 i ∧ Aside0 (Below w2.heap.size w2 wr))
    case atStart => exact ⟨0, Nat.zero_le _, by omega, rfl, ⟨Below.refl _ _⟩⟩
    case round =>
      obtain ⟨i, hi, hgg, rfl, HB⟩ := hrel
      have p0 : (0 : Int) ≤ (i : Int) := by omega
      have z0 : wr.cell? ⟨gb, 0, none⟩ = some (.string p.f0) := (blk_cell ((HB.out.block gb (blk_lt BK2.out)).trans BK2.out) 0).trans rfl
      by_cases hlt : i < q
      · have hltz : (i : Int) < (n : Int) := by have := HQL.out; omega
        have hd := decide_eq_true hltz
        obtain ⟨x, hx⟩ : ∃ x, x = rd_T24 r i := ⟨_, rfl⟩
        obtain ⟨ad, e1, hx0, _⟩ := at_T24 (Kd.C_below HC.out HB.out) (i : Int) p0 hltz
        cases e1
        have hb := HLT.out i hlt
        simp only [Int.toNat_natCast] at hx0
        rw [← hx] at hx0 hb
        clear hx
        go_wp2
        go_quiet (fail)
        go_wp2
        go_roundg (q - (i + 1))
        case measure => omega
        case rel => exact ⟨i + 1, by omega, by omega, by go_num, ⟨pw_below_drewN HB.out _⟩⟩
      · obtain rfl : i = q := by omega
        by_cases hn : i < n
        · have hltz : (i : Int) < (n : Int) := by omega
          have hd := decide_eq_true hltz
          obtain ⟨x, hx⟩ : ∃ x, x = rd_T24 r i := ⟨_, rfl⟩
          obtain ⟨ad, e1, hx0, _⟩ := at_T24 (Kd.C_below HC.out HB.out) (i : Int) p0 hltz
          cases e1
          have hb := HAT.out hn
          simp only [Int.toNat_natCast] at hx0
          rw [← hx] at hx0 hb
          clear hx
          go_wp2
          go_quiet (fail)
          go_wp2
          go_meet
          case rel => exact ⟨rfl, ⟨blk_drewN ((HB.out.block gb (blk_lt BK2.out)).trans BK2.out) _⟩, ⟨pw_below_drewN (below_then BW2.out BW2.out.size HB.out) _⟩, ⟨Kd.C_drewN (Kd.C_below HC.out HB.out) _⟩⟩
        · have hd : decide ((i : Int) < (n : Int)) = false := decide_eq_false (by omega)
          go_wp2
          go_quiet (fail)
          go_wp2
          go_meet
          case rel => exact ⟨rfl, ⟨blk_drewN ((HB.out.block gb (blk_lt BK2.out)).trans BK2.out) _⟩, ⟨pw_below_drewN (below_then BW2.out BW2.out.size HB.out) _⟩, ⟨Kd.C_drewN (Kd.C_below HC.out HB.out) _⟩⟩
  case rest =>
    clear HC BK2 BW2 BK BW GB
    obtain ⟨rfl, BKc, BWc, HCc⟩ := hcut
    have hqn : q ≤ n := by rw [HN.out]; exact HQL.out
    have hcr : n ≤ cr := HCR.out
    obtain ⟨AD, hAD⟩ : ∃ AD, AD = (if cr = q then A else A.map (·.add (q * 4))) := ⟨_, rfl⟩
    have hcT : ∀ W : World, (Instr.slice 22 (.slice A n cr) none (some (.int .i64 (q : Int))) none).run Try.prog W = .ok (.slice A q cr) W := by
      obtain ⟨i0, hi, _⟩ := Option.map_eq_some_iff.1 info24
      have := cut_to (P := Try.prog) 22 24 .i64 Try.underlying22 hi A n cr (q : Int) (by omega) (by omega) hcr
      simpa using this
    have hcF : ∀ W : World, (Instr.slice 22 (.slice A n cr) (some (.int .i64 (q : Int))) none none).run Try.prog W = .ok (.slice AD (n - q) (cr - q)) W := by
      obtain ⟨i0, hi, hz⟩ := Option.map_eq_some_iff.1 info24
      have := cut_from (P := Try.prog) 22 24 .i64 Try.underlying22 hi 4 (by simp only [Prod.mk.injEq] at hz; exact hz.2.1) A n cr (q : Int) (by omega) (by omega)
      rw [hAD]
      simpa using this
    have HT := Aside0.mk (show ∀ W : World, Below wc.heap.size wc W → Kd.C k24 W A q (r.take q) from fun W hb => by
      have hC := Kd.C_below HCc.out hb
      rw [HN.out] at hC
      have h := Kd.C_take hC (m := q) (by rw [← HN.out]; exact hqn)
      rwa [List.length_take, ← HN.out, Nat.min_eq_left hqn] at h)
    have HD := Aside0.mk (show ∀ W : World, Below wc.heap.size wc W → Kd.C k24 W AD (n - q) (r.drop q) from fun W hb => by
      have hC := Kd.C_below HCc.out hb
      rw [HN.out] at hC
      have h := Kd.C_drop (c := cr) hC (m := q) (by rw [← HN.out]; exact hqn) (by rw [← HN.out]; exact hcr)
      rw [List.length_drop, ← HN.out] at h
      rw [hAD]
      exact h)
    have HNN := Aside0.mk (show (r.take q).length = q ∧ (r.drop q).length = n - q by rw [List.length_take, List.length_drop, ← HN.out]; omega)
    have HQN := Aside0.mk hqn
    have HRL := Aside0.mk hrl
    clear hAD HCc HCR HQL hqn hcr hrl HQ
    go_wp2
    have HB_ := Aside0.mk (below_drew (Below.refl wc.heap.size wc))
    have BK_ := Aside0.mk (blk_drew BKc.out)
    refine start_ (n := 13) (S := fun w' => w'.cell? ⟨gb, 0, none⟩ = some (.string p.f0) ∧ w'.cell? ⟨gb, 1, none⟩ = some (.string p.f1) ∧ w'.cell? ⟨gb, 2, none⟩ = some (.int .i64 p.f2) ∧ w'.cell? ⟨gb, 3, none⟩ = some (.int .i64 p.f3)) (ds := [7, 11]) #[false, false, false, false, false, false, false, false, false, false, false, false, false] (by kernel_rfl) rfl rfl ⟨(blk_cell BK_.out 0).trans rfl, (blk_cell BK_.out 1).trans rfl, (blk_cell BK_.out 2).trans rfl, (blk_cell BK_.out 3).trans rfl⟩ (fun hHeld => ?_)
    refine pure_ (i := 1) (N := some 28) (v := ?_) (a' := ?_) #[false, true, false, false, false, false, false, false, false, false, false, false, false] rfl rfl (by kernel_rfl) (fun _ _ _ h => h) (Or.inl ⟨by rfl, ?_⟩) ?_ ?_
    rotate_left
    · intro w'
      go_simp
      with_reducible rfl
    rotate_left
    · simp only [Act.put, List.setIfInBounds_toArray, List.set_cons_zero, List.set_cons_succ, i64_w, i32_w]
      rfl
    refine pure_ (i := 2) (N := some 29) (v := ?_) (a' := ?_) #[false, true, true, false, false, false, false, false, false, false, false, false, false] rfl rfl (by kernel_rfl) (fun _ _ _ h => h) (Or.inl ⟨by rfl, ?_⟩) ?_ ?_
    rotate_left
    · intro w'
      go_simp
      with_reducible rfl
    rotate_left
    · simp only [Act.put, List.setIfInBounds_toArray, List.set_cons_zero, List.set_cons_succ, i64_w, i32_w]
      rfl
    refine pure_ (i := 3) (N := some 30) (v := ?_) (a' := ?_) #[false, true, true, true, false, false, false, false, false, false, false, false, false] rfl rfl (by kernel_rfl) (fun _ _ _ h => h) (Or.inl ⟨by rfl, ?_⟩) ?_ ?_
    rotate_left
    · intro w'
      go_simp
      with_reducible rfl
    rotate_left
    · simp only [Act.put, List.setIfInBounds_toArray, List.set_cons_zero, List.set_cons_succ, i64_w, i32_w]
      rfl
    refine pure_ (i := 8) (N := some 35) (v := ?_) (a' := ?_) #[false, true, true, true, false, false, false, false, true, false, false, false, false] rfl rfl (by kernel_rfl) (fun _ _ _ h => h) (Or.inl ⟨by rfl, ?_⟩) ?_ ?_
    rotate_left
    · intro w'
      go_simp
      with_reducible rfl
    rotate_left
    · simp only [Act.put, List.setIfInBounds_toArray, List.set_cons_zero, List.set_cons_succ, i64_w, i32_w]
      rfl
    refine pure_ (i := 9) (N := some 36) (v := ?_) (a' := ?_) #[false, true, true, true, false, false, false, false, true, true, false, false, false] rfl rfl (by kernel_rfl) (fun _ _ _ h => h) (Or.inl ⟨by rfl, ?_⟩) ?_ ?_
    rotate_left
    · intro w'
      go_simp
      with_reducible rfl
    rotate_left
    · simp only [Act.put, List.setIfInBounds_toArray, List.set_cons_zero, List.set_cons_succ, i64_w, i32_w]
      rfl
    refine pure_ (i := 10) (N := some 37) (v := ?_) (a' := ?_) #[false, true, true, true, false, false, false, false, true, true, true, false, false] rfl rfl (by kernel_rfl) (fun _ _ _ h => h) (Or.inl ⟨by rfl, ?_⟩) ?_ ?_
    rotate_left
    · intro w'
      go_simp
      with_reducible rfl
    rotate_left
    · simp only [Act.put, List.setIfInBounds_toArray, List.set_cons_zero, List.set_cons_succ, i64_w, i32_w]
      rfl
    refine take_ (i := 5) (N := some 32) (v := ?_) (a' := ?_) #[false, true, true, true, false, true, false, false, true, true, true, false, false] rfl rfl (by kernel_rfl) (fun _ _ _ h => h) (Or.inl ⟨by rfl, ?_⟩) hHeld ?_ ?_
    rotate_left
    · rintro w' ⟨s0, s1, s2, s3⟩
      go_simp
      with_reducible rfl
    rotate_left
    · simp only [Act.put, List.setIfInBounds_toArray, List.set_cons_zero, List.set_cons_succ, i64_w, i32_w]
      rfl
    refine join_ (σ := Value × Value × Value) 3 #[true, true, true, true, true, true, true, false, true, true, true, false, false] (fun s_ => [(27, s_.1), (31, s_.2.1), (33, s_.2.2)]) (fun s_ w' => (w'.cell? ⟨gb, 0, none⟩ = some (.string p.f0) ∧ w'.cell? ⟨gb, 1, none⟩ = some (.string p.f1) ∧ w'.cell? ⟨gb, 2, none⟩ = some (.int .i64 p.f2) ∧ w'.cell? ⟨gb, 3, none⟩ = some (.int .i64 p.f3)) ∧ (Kd.R k24 24 w' wc.heap.size (fun _ => True) s_.2.1 (r.take q)) ∧ (Kd.R k24 24 w' wc.heap.size (fun _ => True) s_.2.2 [p]) ∧ Below wc.heap.size wc w') ?_ ?_
    rotate_left
    · intro hCont
      refine two_ (i := 0) (j := 6) (Ni := some 27) (Nj := some 33) #[true, true, true, true, false, true, false, false, true, true, true, false, false] #[false, true, true, true, false, true, true, false, true, true, true, false, false] rfl rfl rfl rfl (by kernel_rfl) (by decide) (by decide) (fun K hK => ?_) (fun K hK => ?_)
      · skip
        refine Kd.R_lit_step k24 (w0 := wc) wc.heap.size 24 (by rfl) (N := 27) rfl (xs := ([] : List S24)) (inner := []) (ok := fun _ => True) (okp := fun _ => False) ?hr (by exact Reps.none _ _) (fun _ hk => hk.elim) trivial HB_.out HB_.out.size (by simp) ?_
        (case hr => first | (go_simp; done) | (go_simp; rfl))
        intro v27 wq_0 hR hb hg hat
        have HB_0 := Aside0.mk hb
        have BK_0 := Aside0.mk (blk_grown BK_.out hg (by simp))
        have HO27_0 := Aside0.mk hR
        clear hR hb hg hat
        refine hK.out _ _ ⟨(blk_cell BK_0.out 0).trans rfl, (blk_cell BK_0.out 1).trans rfl, (blk_cell BK_0.out 2).trans rfl, (blk_cell BK_0.out 3).trans rfl⟩ (fun hHeld => ?_)
        clear hK K
        refine norm_ (a' := ?_) ?_ ?_
        rotate_left
        · show Act.put _ (some 27) _ = _
          simp only [Act.put, List.setIfInBounds_toArray, List.set_cons_zero, List.set_cons_succ, i64_w, i32_w]
          rfl
        refine two_ (i := 4) (j := 6) (Ni := some 31) (Nj := some 33) #[true, true, true, true, true, true, false, false, true, true, true, false, false] #[true, true, true, true, false, true, true, false, true, true, true, false, false] rfl rfl rfl rfl (by kernel_rfl) (by decide) (by decide) (fun K hK => ?_) (fun K hK => ?_)
        · skip
          refine Kd.R_append_rows_step k24 (w0 := wc) wc.heap.size (by rfl) (.tmp 27) (.tmp 30) 22 24 z24v 48 rfl Try.underlying22 info24 rfl (by decide) (by omega) v27 [] (r.take q) A q cr (fun _ => True) (fun _ => False) rfl rfl HO27_0.out (HT.out _ HB_0.out) (fun x cs hx => by rw [k24_open hx]; exact k24_mkM _ _ _ x) (fun _ hk => hk.elim) (fun k hk => trivial) HB_0.out HB_0.out.size (by have := HQN.out; have := HRL.out; simp only [List.length_nil]; omega) ?_
          intro v31 wq_04 ho hb hg hat
          have HB_04 := Aside0.mk hb
          have BK_04 := Aside0.mk (blk_grown BK_0.out hg (fun e => by have h1 := Kd.R_base HO27_0.out gb e.symm; have h2 := blk_lt BKc.out; omega))
          have HO31_04 := Aside0.mk ho
          clear ho hb hg hat
          refine hK.out _ _ ⟨(blk_cell BK_04.out 0).trans rfl, (blk_cell BK_04.out 1).trans rfl, (blk_cell BK_04.out 2).trans rfl, (blk_cell BK_04.out 3).trans rfl⟩ (fun hHeld => ?_)
          clear hK K
          refine norm_ (a' := ?_) ?_ ?_
          rotate_left
          · show Act.put _ (some 31) _ = _
            simp only [Act.put, List.setIfInBounds_toArray, List.set_cons_zero, List.set_cons_succ, i64_w, i32_w]
            rfl
          refine one_ (i := 6) (N := some 33) #[true, true, true, true, true, true, true, false, true, true, true, false, false] rfl rfl (by kernel_rfl) (by decide) (fun K hK => ?_)
          refine Kd.R_lit_step k24 (w0 := wc) wc.heap.size 24 (by rfl) (N := 33) rfl (xs := [p]) (inner := [.string p.f0, .string p.f1, .int .i64 p.f2, .int .i64 p.f3]) (ok := fun _ => True) (okp := fun _ => False) ?hr (by exact cells_reps (fun x => k24_mkM _ _ _ x) [p]) (fun _ hk => hk.elim) trivial HB_04.out HB_04.out.size (by simp) ?_
          (case hr => first | (go_simp; done) | (go_simp; rfl))
          intro v33 wq_046 hR hb hg hat
          have HB_046 := Aside0.mk hb
          have BK_046 := Aside0.mk (blk_grown BK_04.out hg (by simp))
          have HO33_046 := Aside0.mk hR
          have HO31_046 := Aside0.mk (Kd.R_grown HO31_04.out hg (fun k _ => by simp))
          clear hR hb hg hat
          refine hK.out _ _ ⟨(blk_cell BK_046.out 0).trans rfl, (blk_cell BK_046.out 1).trans rfl, (blk_cell BK_046.out 2).trans rfl, (blk_cell BK_046.out 3).trans rfl⟩ (fun hHeld => ?_)
          clear hK K
          refine norm_ (a' := ?_) ?_ ?_
          rotate_left
          · show Act.put _ (some 33) _ = _
            simp only [Act.put, List.setIfInBounds_toArray, List.set_cons_zero, List.set_cons_succ, i64_w, i32_w]
            rfl
          exact norm_ (by simp only [putAll, Act.put, List.setIfInBounds_toArray, List.set_cons_zero, List.set_cons_succ]) (hCont (v27, v31, v33) _ ⟨hHeld, HO31_046.out, HO33_046.out, HB_046.out⟩)
        · skip
          refine Kd.R_lit_step k24 (w0 := wc) wc.heap.size 24 (by rfl) (N := 33) rfl (xs := [p]) (inner := [.string p.f0, .string p.f1, .int .i64 p.f2, .int .i64 p.f3]) (ok := fun _ => True) (okp := fun _ => False) ?hr (by exact cells_reps (fun x => k24_mkM _ _ _ x) [p]) (fun _ hk => hk.elim) trivial HB_0.out HB_0.out.size (by simp) ?_
          (case hr => first | (go_simp; done) | (go_simp; rfl))
          intro v33 wq_06 hR hb hg hat
          have HB_06 := Aside0.mk hb
          have BK_06 := Aside0.mk (blk_grown BK_0.out hg (by simp))
          have HO33_06 := Aside0.mk hR
          have NE := Aside0.mk (show v27.ownBlock ≠ v33.ownBlock from fun e => by obtain ⟨b, hb1, hb2⟩ := hat; have h2 := Kd.R_lt HO27_0.out b (by rw [e]; exact hb1); omega)
          have HO27_06 := Aside0.mk (Kd.R_grown HO27_0.out hg (fun k _ => by simp))
          clear hR hb hg hat
          refine hK.out _ _ ⟨(blk_cell BK_06.out 0).trans rfl, (blk_cell BK_06.out 1).trans rfl, (blk_cell BK_06.out 2).trans rfl, (blk_cell BK_06.out 3).trans rfl⟩ (fun hHeld => ?_)
          clear hK K
          refine norm_ (a' := ?_) ?_ ?_
          rotate_left
          · show Act.put _ (some 33) _ = _
            simp only [Act.put, List.setIfInBounds_toArray, List.set_cons_zero, List.set_cons_succ, i64_w, i32_w]
            rfl
          refine one_ (i := 4) (N := some 31) #[true, true, true, true, true, true, true, false, true, true, true, false, false] rfl rfl (by kernel_rfl) (by decide) (fun K hK => ?_)
          refine Kd.R_append_rows_step k24 (w0 := wc) wc.heap.size (by rfl) (.tmp 27) (.tmp 30) 22 24 z24v 48 rfl Try.underlying22 info24 rfl (by decide) (by omega) v27 [] (r.take q) A q cr (fun _ => True) (fun _ => False) rfl rfl HO27_06.out (HT.out _ HB_06.out) (fun x cs hx => by rw [k24_open hx]; exact k24_mkM _ _ _ x) (fun _ hk => hk.elim) (fun k hk => trivial) HB_06.out HB_06.out.size (by have := HQN.out; have := HRL.out; simp only [List.length_nil]; omega) ?_
          intro v31 wq_064 ho hb hg hat
          have HB_064 := Aside0.mk hb
          have BK_064 := Aside0.mk (blk_grown BK_06.out hg (fun e => by have h1 := Kd.R_base HO27_06.out gb e.symm; have h2 := blk_lt BKc.out; omega))
          have HO31_064 := Aside0.mk ho
          have HO33_064 := Aside0.mk (Kd.R_grown1 HO33_06.out rfl hg NE.out)
          clear ho hb hg hat
          refine hK.out _ _ ⟨(blk_cell BK_064.out 0).trans rfl, (blk_cell BK_064.out 1).trans rfl, (blk_cell BK_064.out 2).trans rfl, (blk_cell BK_064.out 3).trans rfl⟩ (fun hHeld => ?_)
          clear hK K
          refine norm_ (a' := ?_) ?_ ?_
          rotate_left
          · show Act.put _ (some 31) _ = _
            simp only [Act.put, List.setIfInBounds_toArray, List.set_cons_zero, List.set_cons_succ, i64_w, i32_w]
            rfl
          exact norm_ (by simp only [putAll, Act.put, List.setIfInBounds_toArray, List.set_cons_zero, List.set_cons_succ]) (hCont (v27, v31, v33) _ ⟨hHeld, HO31_064.out, HO33_064.out, HB_064.out⟩)
      · skip
        refine Kd.R_lit_step k24 (w0 := wc) wc.heap.size 24 (by rfl) (N := 33) rfl (xs := [p]) (inner := [.string p.f0, .string p.f1, .int .i64 p.f2, .int .i64 p.f3]) (ok := fun _ => True) (okp := fun _ => False) ?hr (by exact cells_reps (fun x => k24_mkM _ _ _ x) [p]) (fun _ hk => hk.elim) trivial HB_.out HB_.out.size (by simp) ?_
        (case hr => first | (go_simp; done) | (go_simp; rfl))
        intro v33 wq_6 hR hb hg hat
        have HB_6 := Aside0.mk hb
        have BK_6 := Aside0.mk (blk_grown BK_.out hg (by simp))
        have HO33_6 := Aside0.mk hR
        clear hR hb hg hat
        refine hK.out _ _ ⟨(blk_cell BK_6.out 0).trans rfl, (blk_cell BK_6.out 1).trans rfl, (blk_cell BK_6.out 2).trans rfl, (blk_cell BK_6.out 3).trans rfl⟩ (fun hHeld => ?_)
        clear hK K
        refine norm_ (a' := ?_) ?_ ?_
        rotate_left
        · show Act.put _ (some 33) _ = _
          simp only [Act.put, List.setIfInBounds_toArray, List.set_cons_zero, List.set_cons_succ, i64_w, i32_w]
          rfl
        refine one_ (i := 0) (N := some 27) #[true, true, true, true, false, true, true, false, true, true, true, false, false] rfl rfl (by kernel_rfl) (by decide) (fun K hK => ?_)
        refine Kd.R_lit_step k24 (w0 := wc) wc.heap.size 24 (by rfl) (N := 27) rfl (xs := ([] : List S24)) (inner := []) (ok := fun _ => True) (okp := fun _ => False) ?hr (by exact Reps.none _ _) (fun _ hk => hk.elim) trivial HB_6.out HB_6.out.size (by simp) ?_
        (case hr => first | (go_simp; done) | (go_simp; rfl))
        intro v27 wq_60 hR hb hg hat
        have HB_60 := Aside0.mk hb
        have BK_60 := Aside0.mk (blk_grown BK_6.out hg (by simp))
        have HO27_60 := Aside0.mk hR
        have NE := Aside0.mk (show v27.ownBlock ≠ v33.ownBlock from fun e => by obtain ⟨b, hb1, hb2⟩ := hat; have h2 := Kd.R_lt HO33_6.out b (by rw [← e]; exact hb1); omega)
        have HO33_60 := Aside0.mk (Kd.R_grown HO33_6.out hg (fun k _ => by simp))
        clear hR hb hg hat
        refine hK.out _ _ ⟨(blk_cell BK_60.out 0).trans rfl, (blk_cell BK_60.out 1).trans rfl, (blk_cell BK_60.out 2).trans rfl, (blk_cell BK_60.out 3).trans rfl⟩ (fun hHeld => ?_)
        clear hK K
        refine norm_ (a' := ?_) ?_ ?_
        rotate_left
        · show Act.put _ (some 27) _ = _
          simp only [Act.put, List.setIfInBounds_toArray, List.set_cons_zero, List.set_cons_succ, i64_w, i32_w]
          rfl
        refine one_ (i := 4) (N := some 31) #[true, true, true, true, true, true, true, false, true, true, true, false, false] rfl rfl (by kernel_rfl) (by decide) (fun K hK => ?_)
        refine Kd.R_append_rows_step k24 (w0 := wc) wc.heap.size (by rfl) (.tmp 27) (.tmp 30) 22 24 z24v 48 rfl Try.underlying22 info24 rfl (by decide) (by omega) v27 [] (r.take q) A q cr (fun _ => True) (fun _ => False) rfl rfl HO27_60.out (HT.out _ HB_60.out) (fun x cs hx => by rw [k24_open hx]; exact k24_mkM _ _ _ x) (fun _ hk => hk.elim) (fun k hk => trivial) HB_60.out HB_60.out.size (by have := HQN.out; have := HRL.out; simp only [List.length_nil]; omega) ?_
        intro v31 wq_604 ho hb hg hat
        have HB_604 := Aside0.mk hb
        have BK_604 := Aside0.mk (blk_grown BK_60.out hg (fun e => by have h1 := Kd.R_base HO27_60.out gb e.symm; have h2 := blk_lt BKc.out; omega))
        have HO31_604 := Aside0.mk ho
        have HO33_604 := Aside0.mk (Kd.R_grown1 HO33_60.out rfl hg NE.out)
        clear ho hb hg hat
        refine hK.out _ _ ⟨(blk_cell BK_604.out 0).trans rfl, (blk_cell BK_604.out 1).trans rfl, (blk_cell BK_604.out 2).trans rfl, (blk_cell BK_604.out 3).trans rfl⟩ (fun hHeld => ?_)
        clear hK K
        refine norm_ (a' := ?_) ?_ ?_
        rotate_left
        · show Act.put _ (some 31) _ = _
          simp only [Act.put, List.setIfInBounds_toArray, List.set_cons_zero, List.set_cons_succ, i64_w, i32_w]
          rfl
        exact norm_ (by simp only [putAll, Act.put, List.setIfInBounds_toArray, List.set_cons_zero, List.set_cons_succ]) (hCont (v27, v31, v33) _ ⟨hHeld, HO31_604.out, HO33_604.out, HB_604.out⟩)
    rintro ⟨v27, v31, v33⟩ wj ⟨hS_, h31, h33, hb_⟩
    obtain ⟨A33, c33, rfl, _, hC33⟩ := Kd.R_reads h33
    have HO31 := Aside0.mk h31
    have HC33 := Aside0.mk hC33
    have HBj := Aside0.mk hb_
    have hHeld : wj.cell? ⟨gb, 0, none⟩ = some (.string p.f0) ∧ wj.cell? ⟨gb, 1, none⟩ = some (.string p.f1) ∧ wj.cell? ⟨gb, 2, none⟩ = some (.int .i64 p.f2) ∧ wj.cell? ⟨gb, 3, none⟩ = some (.int .i64 p.f3) := hS_
    clear h31 h33 hb_ hC33 hS_
    refine norm_ (a' := ?_) ?_ ?_
    rotate_left
    · simp only [putAll, Act.put, List.setIfInBounds_toArray, List.set_cons_zero, List.set_cons_succ]
      rfl
    refine last_ (i := 7) (N := some 34) #[true, true, true, true, true, true, true, true, true, true, true, false, false] rfl rfl (by kernel_rfl) (by decide) (fun K hK => ?_)
    refine Kd.R_append_rows_step k24 (w0 := wc) wc.heap.size (by rfl) (.tmp 31) (.tmp 33) 22 24 z24v 48 rfl Try.underlying22 info24 rfl (by decide) (by omega) v31 (r.take q) [p] A33 1 c33 (fun _ => True) (fun _ => False) rfl rfl HO31.out HC33.out (fun x cs hx => by rw [k24_open hx]; exact k24_mkM _ _ _ x) (fun _ hk => hk.elim) (fun k hk => trivial) HBj.out HBj.out.size (by have := HQN.out; have := HRL.out; have := HNN.out; omega) ?_
    intro v34 wk ho hb hg hat
    have HO34 := Aside0.mk ho
    have HBk := Aside0.mk hb
    clear ho hb hg hat
    refine hK.out _ _ ?_
    clear hK K
    refine norm_ (a' := ?_) ?_ ?_
    rotate_left
    · show Act.put _ (some 34) _ = _
      simp only [Act.put, List.setIfInBounds_toArray, List.set_cons_zero, List.set_cons_succ, i64_w, i32_w]
      rfl
    refine last_ (i := 11) (N := some 38) #[true, true, true, true, true, true, true, true, true, true, true, true, false] rfl rfl (by kernel_rfl) (by decide) (fun K hK => ?_)
    refine Kd.R_append_rows_step k24 (w0 := wc) wc.heap.size (by rfl) (.tmp 34) (.tmp 37) 22 24 z24v 48 rfl Try.underlying22 info24 rfl (by decide) (by omega) v34 (r.take q ++ [p]) (r.drop q) AD (n - q) (cr - q) (fun _ => True) (fun _ => False) rfl rfl HO34.out (HD.out _ HBk.out) (fun x cs hx => by rw [k24_open hx]; exact k24_mkM _ _ _ x) (fun _ hk => hk.elim) (fun k hk => trivial) HBk.out HBk.out.size (by have := HQN.out; have := HRL.out; have := HNN.out; simp only [List.length_append, List.length_cons, List.length_nil]; omega) ?_
    intro v38 wl ho hb hg hat
    rw [List.append_assoc] at ho
    have HFIN := Aside0.mk (And.intro ho hb)
    clear ho hb hg hat
    refine hK.out _ _ ?_
    clear hK K
    refine norm_ (a' := ?_) ?_ ?_
    rotate_left
    · show Act.put _ (some 38) _ = _
      simp only [Act.put, List.setIfInBounds_toArray, List.set_cons_zero, List.set_cons_succ, i64_w, i32_w]
      rfl
    refine pure_ (i := 12) (N := some 4) (v := ?_) (a' := ?_) #[true, true, true, true, true, true, true, true, true, true, true, true, true] rfl rfl (by kernel_rfl) (fun _ _ _ h => h) (Or.inl ⟨by rfl, ?_⟩) ?_ ?_
    rotate_left
    · intro w'
      go_simp
      with_reducible rfl
    rotate_left
    · simp only [Act.put, List.setIfInBounds_toArray, List.set_cons_zero, List.set_cons_succ, i64_w, i32_w]
      rfl
    refine done_ (by kernel_rfl) ?_
    go_wp2
    go_ret
    exact ⟨_, rfl, Kd.R_lower HFIN.out.1 BWc.out.size, below_then BWc.out BWc.out.size HFIN.out.2⟩
end Go.Proofs.Ytndbchcfjajgbaa.XP
