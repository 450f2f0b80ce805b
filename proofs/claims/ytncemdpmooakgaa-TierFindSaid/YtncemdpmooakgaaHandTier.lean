import Derived.Test.YtncemdpmooakgaaXK0
import Derived.Test.YtncemdpmooakgaaXH
import Derived.Test.YtncemdpmooakgaaXKF
namespace Go.Proofs.Ytncemdpmooakgaa.XK
open Go.RowKit Go.Proofs Go.Proofs.YtncemdpmooakgaaW.PrintWords Go.Proofs.YtncemdpmooakgaaW.PrintLast Go.Proofs.Ytncemdpmooakgaa.XH
set_option linter.unusedVariables false
set_option linter.unusedSimpArgs false
def fl (bs : List Bool) : Array Value := (bs.map Value.bool).toArray
/-- One round of the marking. -/
def step1 (i s : Int) (m : Bool) (bs : List Bool) (k : Nat) : List Bool :=
  let b1 := bs.set ((i + (k : Int) * s) % 24).toNat true
  if m then b1.set ((24 - i + (k : Int) * s) % 24).toNat true else b1
def markL (i s : Int) (m : Bool) (bs : List Bool) : Nat → List Bool
  | 0 => bs
  | k + 1 => step1 i s m (markL i s m bs k) k
theorem markL_len (i s : Int) (m : Bool) (bs : List Bool) : ∀ k, (markL i s m bs k).length = bs.length
  | 0 => rfl
  | k + 1 => by simp only [markL, step1]; split <;> simp [markL_len i s m bs k]
theorem fl_set (bs : List Bool) (j : Nat) : (fl bs).setIfInBounds j (.bool true) = fl (bs.set j true) := by
  unfold fl; simp [List.map_set]
theorem fl_cell (bs : List Bool) (j : Nat) (h : j < bs.length) : (fl bs)[j]? = some (.bool (bs.getD j false)) := by
  unfold fl; simp [h, List.getD_eq_getElem?_getD]
theorem kq (kk n : Nat) (h : kk < n) (h1 : 1 ≤ (n : Int)) (h2 : (n : Int) ≤ 24) (hos : (n : Int) * (24 / (n : Int)) = 24) : ∃ q : Int, wrap64 ((kk : Int) * (24 / (n : Int))) = q ∧ 0 ≤ q ∧ q < 24 ∧ (kk : Int) * (24 / (n : Int)) = q := by
  have h3 : (1 : Int) ≤ 24 / (n : Int) := by
    rcases Int.lt_or_le (24 / (n : Int)) 1 with h | h
    · have : (n : Int) * (24 / (n : Int)) ≤ (n : Int) * 0 := Int.mul_le_mul_of_nonneg_left (by omega) (by omega)
      omega
    · exact h
  have h4 : (kk : Int) * (24 / (n : Int)) ≤ ((n : Int) - 1) * (24 / (n : Int)) := Int.mul_le_mul_of_nonneg_right (by omega) (by omega)
  have h5 : 0 ≤ (kk : Int) * (24 / (n : Int)) := Int.mul_nonneg (by omega) (by omega)
  rw [Int.sub_mul, hos] at h4
  refine ⟨_, ?_, h5, by omega, rfl⟩
  unfold wrap64; omega
set_option maxHeartbeats 2000000 in
theorem mark (g : Nat) (bs : List Bool) (hbs : bs.length = 24) (n : Nat) (m : Bool) (x : Int) (ho1 : 1 ≤ (n : Int)) (ho2 : (n : Int) ≤ 24) (hos : (n : Int) * (24 / (n : Int)) = 24) (t : Int) (ht : Int.tmod x 24 = t) (ht1 : -24 < t) (ht2 : t < 24) (w : World) (hg : w.heap[g]? = some (.cells (fl bs) 125 (0, 0))) :
    Calls Try.prog 55 #[.pointer (some ⟨g, 0, none⟩), .int .i64 (n : Int), .bool m, .int .i64 x] w fun e w' => e = .returned (.tuple #[]) ∧ w'.heap[g]? = some (.cells (fl (markL (t % 24) (24 / (n : Int)) m bs n)) 125 (0, 0)) ∧ Below g w w' := by
  have HOS := Aside0.mk hos
  have HG := Aside0.mk hg
  have HBS := Aside0.mk hbs
  clear hg hbs hos
  go_enter Try.func55, Try.ntmps55
  go_wp2
  go_loopg [10, 18] n (fun gg _ s18 wr => ∃ kk : Nat, kk ≤ n ∧ n - kk ≤ gg ∧ s18 = .int .i64 kk ∧ Aside0 (wr.heap[g]? = some (.cells (fl (markL (t % 24) (24 / (n : Int)) m bs kk)) 125 (0, 0))) ∧ Aside0 (Below g w wr))
  case atStart => exact ⟨0, Nat.zero_le _, by omega, rfl, ⟨HG.out⟩, ⟨Below.refl _ _⟩⟩
  case round =>
    obtain ⟨kk, hkk, hgk, rfl, BK, KB⟩ := hrel
    by_cases hlt : kk < n
    · have hltz : (kk : Int) < (n : Int) := by omega
      obtain ⟨q, hq, hq1, hq2, hqe⟩ := kq kk n hlt ho1 ho2 HOS.out
      have HQE := Aside0.mk hqe
      obtain ⟨p, hp⟩ : ∃ p : Nat, (t % 24 + q) % 24 = (p : Int) := ⟨((t % 24 + q) % 24).toNat, by omega⟩
      have hp2 : p < 24 := by omega
      have hp2z : (p : Int) < 24 := by omega
      have hlen := markL_len (t % 24) (24 / (n : Int)) m bs kk
      rw [HBS.out] at hlen
      have hc1 := (blk_cell BK.out p).trans (fl_cell _ p (by omega))
      have hf1 := blk_frozen BK.out p
      have BK1 := Aside0.mk (blk_put BK.out p (.bool true) (fl_set _ p))
      have KB1 := Aside0.mk (KB.out.setCell (p := ⟨g, p, none⟩) (Nat.le_refl _) (.bool true))
      have HL := Aside0.mk hlen
      have HQ2 := Aside0.mk hqe
      clear hlen hqe
      have HPE := Aside0.mk hp
      cases m with
      | false =>
        go_wp2
        go_roundg (n - (kk + 1))
        case measure => omega
        case rel =>
          refine ⟨kk + 1, by omega, by omega, by go_num, ⟨?_⟩, KB1⟩
          rw [BK1.out]; simp only [markL, step1, HQ2.out, HPE.out]; rfl
      | true =>
        obtain ⟨p2, hp2'⟩ : ∃ p : Nat, (24 - t % 24 + q) % 24 = (p : Int) := ⟨((24 - t % 24 + q) % 24).toNat, by omega⟩
        have HPE2 := Aside0.mk hp2'
        have hp3 : p2 < 24 := by omega
        have hp3z : (p2 : Int) < 24 := by omega
        have hc2 := (blk_cell BK1.out p2).trans (fl_cell _ p2 (by rw [List.length_set]; have := HL.out; omega))
        have hf2 := blk_frozen BK1.out p2
        have BK2 := Aside0.mk (blk_put BK1.out p2 (.bool true) (fl_set _ p2))
        have KB2 := Aside0.mk (KB1.out.setCell (p := ⟨g, p2, none⟩) (Nat.le_refl _) (.bool true))
        go_wp2
        go_roundg (n - (kk + 1))
        case measure => omega
        case rel =>
          refine ⟨kk + 1, by omega, by omega, by go_num, ⟨?_⟩, KB2⟩
          rw [BK2.out]; simp only [markL, step1, HQ2.out, HPE.out, HPE2.out]; rfl
    · have hltz : ¬ (kk : Int) < (n : Int) := by omega
      obtain rfl : kk = n := by omega
      go_wp2
      go_end0
      exact ⟨rfl, BK.out, KB.out⟩

theorem idx_fl (bs : List Bool) (hb : bs.length = 24) (k : Nat) (h : k < 24) (W : World) : (Instr.index 125 (.agg (fl bs)) (.int .i64 (k : Int))).run Try.prog W = .ok (.bool (bs.getD k false)) W := by
  have h1 := fl_cell bs k (by omega)
  have h2 : (k : Int) < 24 := by omega
  unfold Instr.index
  go_simp
/-- The marked places from i on. -/
def marks : List Bool → Int → List Int
  | [], _ => []
  | b :: l, i => if b then i :: marks l (i + 1) else marks l (i + 1)
theorem marks_snoc : ∀ (l : List Bool) (b : Bool) (i : Int), marks (l ++ [b]) i = marks l i ++ if b then [i + l.length] else []
  | [], b, i => by cases b <;> simp [marks]
  | x :: l, b, i => by
    have := marks_snoc l b (i + 1)
    cases x <;> simp only [List.cons_append, marks, this, Bool.false_eq_true, if_false, if_true, List.length_cons, Int.natCast_add, Int.natCast_one] <;> (cases b <;> simp <;> omega)
theorem marks_take (bs : List Bool) (k : Nat) (h : k < bs.length) : marks (bs.take (k + 1)) 0 = marks (bs.take k) 0 ++ if bs.getD k false then [(k : Int)] else [] := by
  rw [List.take_succ_eq_append_getElem h, marks_snoc]
  have e : (bs.take k).length = k := by rw [List.length_take]; omega
  rw [e, List.getD_eq_getElem?_getD, List.getElem?_eq_getElem h]
  simp
theorem marks_len : ∀ (l : List Bool) (i : Int), (marks l i).length ≤ l.length
  | [], _ => by simp [marks]
  | x :: l, i => by
    have := marks_len l (i + 1)
    cases x <;> simp [marks] <;> omega
theorem fl_info (bs : List Bool) (hb : bs.length = 24) : (Try.prog.info? 125).map (·.size) = some (fl bs).size := by
  rw [show (fl bs).size = 24 from by unfold fl; simp [hb]]
  kernel_rfl
set_option maxHeartbeats 4000000 in
set_option maxRecDepth 100000 in
theorem list_core (bs : List Bool) (B : Nat → Bool) (M : Nat → List Int) (hsz : (Try.prog.info? 125).map (·.size) = some (fl bs).size) (hM0 : M 0 = []) (hM : ∀ k, k < 24 → M (k + 1) = M k ++ if B k then [(k : Int)] else []) (hL : ∀ k, (M k).length ≤ k) (hidx : ∀ (k : Nat), k < 24 → ∀ W, (Instr.index 125 (.agg (fl bs)) (.int .i64 (k : Int))).run Try.prog W = .ok (.bool (B k)) W) (w : World) :
    Calls Try.prog 56 #[.agg (fl bs)] w fun e w' => ∃ v0_ : Value, e = .returned (v0_) ∧ Kd.R (Kd.int .i64) 3 w' w.heap.size (fun _ => True) v0_ (M 24) ∧ Below w.heap.size w w' := by
  have HS := Aside0.mk hsz
  clear hsz
  have HI := Aside0.mk hidx
  have HT := Aside0.mk hM
  have HL := Aside0.mk hL
  have H0 := Aside0.mk hM0
  clear hidx hM hL hM0
  go_enter Try.func56, Try.ntmps56
  go_wp2_with (first | ((with_reducible refine gate_dst (N := 1) rfl ?_); refine box_event ?hg (N := 1) ?hd (cs := fl bs) (t := 125) ?hr ?_; (case hd => rfl); (case hg => rfl); (case hr => first | (go_simp; done) | (go_simp; rfl)); intro gb hgb w1 hbox hb1; have BW0 := Aside0.mk hb1; have BK := Aside0.mk hbox; clear hgb hbox hb1) | ((with_reducible refine gate_dst (N := 6) rfl ?_); refine wpList_load_row rfl 125 _ rfl gb rfl 125 (fl bs) (0, 0) _ BK.out Try.underlying125 rfl HS.out ?_))
  go_loopg [3, 4, 5, 7] 24 (fun gg v3 _ _ s7 wr => ∃ kk : Nat, kk ≤ 24 ∧ 24 - kk ≤ gg ∧ s7 = .int .i64 kk ∧ Aside0 (Kd.R (Kd.int .i64) 3 wr w.heap.size (fun _ => True) v3 (M kk)) ∧ Aside0 (Below w.heap.size w wr))
  case atStart => exact ⟨0, by omega, by omega, rfl, ⟨by rw [H0.out]; exact Kd.R_nil _ _ _ _ _⟩, ⟨by repeat (first | (with_reducible first | exact BW0.out | apply below_alloc | apply pw_below_drewN | apply below_drew1) | exact BW0.out)⟩⟩
  case round =>
    obtain ⟨kk, hkk, hgk, rfl, HO, BW⟩ := hrel
    by_cases hlt : kk < 24
    · have hltz : (kk : Int) < 24 := by omega
      have hix := HI.out kk hlt wr
      have HTk := Aside0.mk (HT.out kk hlt)
      cases hq : B kk with
      | true =>
        rw [hq] at hix
        have HQ := Aside0.mk hq
        clear hq
        have hlen := HL.out kk
        have LM := Aside0.mk hlen
        clear hlen
        obtain ⟨xs, hu⟩ : ∃ xs, M kk = xs := ⟨_, rfl⟩
        have HO := Aside0.mk (hu ▸ HO.out)
        have LM := Aside0.mk (hu ▸ LM.out)
        have HU := Aside0.mk hu
        clear hu
        go_wp2_with (first | ((with_reducible refine gate_builtin (b := .append) (xs := #[.tmp 12, .tmp 14]) rfl ?_); at_builtin; refine Kd.R_append (Kd.int .i64) (w0 := w) w.heap.size rfl (.tmp 12) (.tmp 14) 24 3 (.int .i64 0) 8 rfl Try.underlying24 info3 rfl (by decide) (by omega) _ xs (kk : Int) [.int .i64 (kk : Int)] (fun _ => True) (fun _ => False) rfl rfl ?aP (fun _ hk => hk.elim) ?aF ?aO ?aB ?aS ?aL ?_; (case aP => exact rfl); (case aB => exact (by repeat (first | (with_reducible first | exact BW.out | apply below_alloc | apply pw_below_drewN | apply below_drew1) | exact BW.out))); (case aF => exact (fun _ _ => trivial)); (case aO => exact (by (with_reducible repeat (first | apply Kd.R_alloc | apply Kd.R_drewN | apply Kd.R_drew)); exact HO.out)); (case aS => exact (below_size (by repeat (first | (with_reducible first | exact BW.out | apply below_alloc | apply pw_below_drewN | apply below_drew1) | exact BW.out)))); (case aL => have := LM.out; omega); intro v132 w13 ho hb hg hat; have n0_ := Aside0.mk (hb); have n1_ := Aside0.mk (ho); clear BW; clear HO; have BW := n0_; have HO133 := n1_; clear n0_ n1_; clear ho hb hg hat))
        go_roundg (24 - (kk + 1))
        case measure => omega
        case rel =>
          refine ⟨kk + 1, by omega, by omega, by go_num, ⟨?_⟩, BW⟩
          rw [HTk.out, HQ.out, if_pos rfl, HU.out]; exact HO133.out
      | false =>
        rw [hq] at hix
        have HQ := Aside0.mk hq
        clear hq
        go_wp2
        go_roundg (24 - (kk + 1))
        case measure => omega
        case rel =>
          refine ⟨kk + 1, by omega, by omega, by go_num, ⟨?_⟩, BW⟩
          rw [HTk.out, HQ.out, if_neg (by simp), List.append_nil]; exact HO.out
    · have hltz : ¬ (kk : Int) < 24 := by omega
      obtain rfl : kk = 24 := by omega
      go_wp2
      go_ret
      exact ⟨_, rfl, HO.out, BW.out⟩
theorem list_ (bs : List Bool) (hb : bs.length = 24) (w : World) :
    Calls Try.prog 56 #[.agg (fl bs)] w fun e w' => ∃ v0_ : Value, e = .returned (v0_) ∧ Kd.R (Kd.int .i64) 3 w' w.heap.size (fun _ => True) v0_ (marks bs 0) ∧ Below w.heap.size w w' := by
  have h1 := fun (k : Nat) (hk : k < 24) W => idx_fl bs hb k hk W
  have h2 := list_core bs (fun j => bs.getD j false) (fun k => marks (bs.take k) 0) (fl_info bs hb) (by simp [marks]) (fun k hk => marks_take bs k (by omega)) (fun k => Nat.le_trans (marks_len _ _) (List.length_take_le _ _)) h1 w
  rw [List.take_of_length_le (show bs.length ≤ 24 by omega)] at h2
  exact h2

/-- Does an order divide the wheel. -/
def dv (a : Int) : Bool := decide (0 < a) && (24 % a == 0)
theorem dv_cases (a : Int) (h : dv a = true) : ∃ n : Nat, a = (n : Int) ∧ 1 ≤ (n : Int) ∧ (n : Int) ≤ 24 ∧ (n : Int) * (24 / (n : Int)) = 24 := by
  unfold dv at h
  simp only [Bool.and_eq_true, decide_eq_true_eq, beq_iff_eq] at h
  obtain ⟨h1, h2⟩ := h
  refine ⟨a.toNat, by omega, by omega, ?_, ?_⟩
  · rw [Int.toNat_of_nonneg (by omega)]
    exact Int.le_of_dvd (by omega) (Int.dvd_of_emod_eq_zero h2)
  · rw [Int.toNat_of_nonneg (by omega)]
    exact Int.mul_ediv_cancel' (Int.dvd_of_emod_eq_zero h2)
set_option maxHeartbeats 2000000 in
theorem divides (a : Int) (w : World) : Calls Try.prog 54 #[.int .i64 a] w fun e w' => e = .returned (.bool (dv a)) ∧ w' = w := by
  unfold dv
  by_cases h : 0 < a
  · go_enter Try.func54, Try.ntmps54
    go_wp2
    go_ret
    exact ⟨by simp [h], rfl⟩
  · go_enter Try.func54, Try.ntmps54
    go_wp2
    go_ret
    exact ⟨by simp [show ¬ (0 < a) from by omega], rfl⟩
theorem mod24 (x : Int) : ∃ t : Int, Int.tmod x 24 = t ∧ -24 < t ∧ t < 24 := ⟨_, rfl, Int.lt_tmod_of_pos x (by omega), Int.tmod_lt_of_pos x (by omega)⟩
/-- The orbit of an index. -/
def orb (n : Nat) (m : Bool) (x : Int) (bs : List Bool) : List Bool := markL (Int.tmod x 24 % 24) (24 / (n : Int)) m bs n
theorem orb_len (n : Nat) (m : Bool) (x : Int) (bs : List Bool) : (orb n m x bs).length = bs.length := markL_len _ _ _ _ _
def no : List Bool := List.replicate 24 false
def orbitL (a : Int) (m : Bool) (x : Int) : List Int := if dv a then marks (orb a.toNat m x no) 0 else []
set_option maxHeartbeats 4000000 in
theorem orbit (a : Int) (m : Bool) (x : Int) (w : World) :
    Calls Try.prog 19 #[.int .i64 a, .bool m, .int .i64 x] w fun e w' => ∃ v0_ : Value, e = .returned (v0_) ∧ Kd.R (Kd.int .i64) 3 w' w.heap.size (fun _ => True) v0_ (orbitL a m x) ∧ Below w.heap.size w w' := by
  unfold orbitL
  have HD := Aside0.mk (divides a)
  cases hd : dv a with
  | false =>
    rw [hd] at HD
    go_enter Try.func19, Try.ntmps19
    go_wp2_with (go_at_call 54; refine (HD.out _).mono ?_; rintro e w' ⟨rfl, rfl⟩)
    go_ret
    exact ⟨_, rfl, Kd.R_nil _ _ _ _ _, Below.refl _ _⟩
  | true =>
    rw [hd] at HD
    obtain ⟨n, hn, h1, h2, hos⟩ := dv_cases a hd
    subst hn
    obtain ⟨t, ht, ht1, ht2⟩ := mod24 x
    have HM := Aside0.mk (fun g (w : World) hg => mark g no rfl n m x h1 h2 hos t ht ht1 ht2 w hg)
    have HO := Aside0.mk (show orb n m x no = markL (t % 24) (24 / (n : Int)) m no n by unfold orb; rw [ht])
    have hlen : (markL (t % 24) (24 / (n : Int)) m no n).length = 24 := markL_len _ _ _ _ _
    obtain ⟨bs, hbs⟩ : ∃ bs, markL (t % 24) (24 / (n : Int)) m no n = bs := ⟨_, rfl⟩
    have HL := Aside0.mk (fun w => list_ bs (hbs ▸ hlen) w)
    have HI := Aside0.mk (fl_info bs (hbs ▸ hlen))
    rw [hbs] at HO
    have HM2 := Aside0.mk (fun g w hg => hbs ▸ HM.out g w hg)
    clear HM hlen hd ht hos ht1 ht2 h1 h2 hbs
    go_enter Try.func19, Try.ntmps19
    go_wp2_with (first | (go_at_call 54; refine (HD.out _).mono ?_; rintro e w' ⟨rfl, rfl⟩) | ((with_reducible refine gate_dst (N := 7) rfl ?_); refine box_event ?hg (N := 7) ?hd (cs := fl no) (t := 125) ?hr ?_; (case hd => rfl); (case hg => rfl); (case hr => first | (go_simp; done) | (go_simp; rfl)); intro gb hgb w1 hbox hb1; have BW0 := Aside0.mk hb1; have BK := Aside0.mk hbox; have HG := Aside0.mk hgb; clear hgb hbox hb1) | (go_at_call 55; refine (HM2.out gb _ BK.out).mono ?_; rintro e w2 ⟨rfl, hg2, hb2⟩; have BW := Aside0.mk (BW0.out.trans (HG.out ▸ hb2)); have BK2 := Aside0.mk hg2; clear hg2 hb2) | ((with_reducible refine gate_dst (N := 15) rfl ?_); refine wpList_load_row rfl 125 _ rfl gb rfl 125 (fl bs) (0, 0) _ BK2.out Try.underlying125 rfl HI.out ?_) | (go_at_call 56; refine (HL.out _).mono ?_; rintro e w3 ⟨v3, rfl, hR, hb3⟩; have BW3 := Aside0.mk (below_then BW.out BW.out.size hb3); have HR3 := Aside0.mk (Kd.R_lower hR BW.out.size); clear hR hb3))
    go_ret
    refine ⟨v3, rfl, ?_, BW3.out⟩
    rw [HO.out]; exact HR3.out

theorem mark_any (n : Nat) (h1 : 1 ≤ (n : Int)) (h2 : (n : Int) ≤ 24) (hos : (n : Int) * (24 / (n : Int)) = 24) (m : Bool) (bs : List Bool) (hbs : bs.length = 24) (x : Int) (g : Nat) (w : World) (hg : w.heap[g]? = some (.cells (fl bs) 125 (0, 0))) :
    Calls Try.prog 55 #[.pointer (some ⟨g, 0, none⟩), .int .i64 (n : Int), .bool m, .int .i64 x] w fun e w' => e = .returned (.tuple #[]) ∧ w'.heap[g]? = some (.cells (fl (orb n m x bs)) 125 (0, 0)) ∧ Below g w w' := by
  obtain ⟨t, ht, ht1, ht2⟩ := mod24 x
  unfold orb
  rw [ht]
  exact mark g bs hbs n m x h1 h2 hos t ht ht1 ht2 w hg
/-- All orbits. -/
def orbs (n : Nat) (m : Bool) (l : List Int) (bs : List Bool) : List Bool := l.foldl (fun b x => orb n m x b) bs
theorem orbs_len (n : Nat) (m : Bool) : ∀ (l : List Int) (bs : List Bool), (orbs n m l bs).length = bs.length
  | [], _ => rfl
  | x :: l, bs => by show (orbs n m l (orb n m x bs)).length = _; rw [orbs_len n m l, orb_len]
theorem orbs_snoc (n : Nat) (m : Bool) (l : List Int) (x : Int) (bs : List Bool) : orbs n m (l ++ [x]) bs = orb n m x (orbs n m l bs) := by simp [orbs, List.foldl_append]
def posL (a : Int) (m : Bool) (h : Int) (l : List Int) : List Int := if dv a then (if h = 0 then [0] else marks (orbs a.toNat m l no) 0) else []
set_option maxHeartbeats 4000000 in
theorem positions (a : Int) (m : Bool) (cs : Array Value) (hh : Int) (A : Option Addr) (c : Nat) (l : List Int) (hc1 : cs[1]? = some (.int .i64 hh)) (hc3 : cs[3]? = some (.slice A l.length c)) (w : World) (hr : Kd.C (Kd.int .i64) w A l.length l) :
    Calls Try.prog 21 #[.int .i64 a, .bool m, .agg cs] w fun e w' => ∃ v0_ : Value, e = .returned (v0_) ∧ Kd.R (Kd.int .i64) 3 w' w.heap.size (fun _ => True) v0_ (posL a m hh l) ∧ Below w.heap.size w w' := by
  unfold posL
  have HD := Aside0.mk (divides a)
  have HC1 := Aside0.mk hc1
  have HC3 := Aside0.mk hc3
  have hbig : l.length ≤ 9223372036854775807 := hr.2.1
  have HR := Aside0.mk hr
  clear hc1 hc3 hr
  cases hd : dv a with
  | false =>
    rw [hd] at HD
    go_enter Try.func21, Try.ntmps21
    go_wp2_with (first | ((with_reducible refine gate_dst (N := 5) rfl ?_); refine box_event ?hg (N := 5) ?hd (cs := cs) (t := 51) ?hr ?_; (case hd => rfl); (case hg => rfl); (case hr => first | (go_simp; done) | (go_simp; rfl)); intro gb hgb w1 hbox hb1; have BW0 := Aside0.mk hb1; clear hgb hbox hb1) | (go_at_call 54; refine (HD.out _).mono ?_; rintro e w' ⟨rfl, rfl⟩))
    go_ret
    exact ⟨_, rfl, Kd.R_nil _ _ _ _ _, BW0.out⟩
  | true =>
    rw [hd] at HD
    obtain ⟨n, hn, h1, h2, hos⟩ := dv_cases a hd
    subst hn
    have HM := Aside0.mk (fun bs hbs x g w hg => mark_any n h1 h2 hos m bs hbs x g w hg)
    clear hd hos h1 h2
    by_cases hz : hh = 0
    · rw [if_pos rfl, if_pos hz]
      have hz1 : (hh == 0) = true := by simpa using hz
      clear hz
      go_enter Try.func21, Try.ntmps21
      go_wp2_with (first | ((with_reducible refine gate_dst (N := 5) rfl ?_); refine box_event ?hg (N := 5) ?hd (cs := cs) (t := 51) ?hr ?_; (case hd => rfl); (case hg => rfl); (case hr => first | (go_simp; done) | (go_simp; rfl)); intro gb hgb w1 hbox hb1; have BW0 := Aside0.mk hb1; have hcell1 := (blk_cell hbox 1).trans HC1.out; have hcell3 := (blk_cell hbox 3).trans HC3.out; clear hgb hbox hb1) | (go_at_call 54; refine (HD.out _).mono ?_; rintro e w' ⟨rfl, rfl⟩) | ((with_reducible refine gate_dst (N := 16) rfl ?_); refine Kd.R_lit (Kd.int .i64) (w0 := w) w.heap.size 3 rfl (N := 16) rfl (xs := [(0 : Int)]) (inner := [.int .i64 0]) (ok := fun _ => True) (okp := fun _ => False) ?hr (by exact Reps.snoc (Reps.none _ _) rfl rfl) (fun _ hk => hk.elim) trivial BW0.out BW0.out.size (by simp) ?_; (case hr => first | (go_simp; done) | (go_simp; rfl)); intro v1 w2 hR hb2 _ _; have BW2 := Aside0.mk hb2; have HR2 := Aside0.mk hR; clear hR hb2))
      go_ret
      exact ⟨_, rfl, HR2.out, BW2.out⟩
    · rw [if_pos rfl, if_neg hz]
      have hz1 : (hh == 0) = false := by simpa using hz
      clear hz
      have HLE : ∀ k, Aside0 ((orbs n m (l.take k) no).length = 24) := fun k => ⟨orbs_len _ _ _ _⟩
      have HT : ∀ (k : Nat), k < l.length → Aside0 (orbs n m (l.take (k + 1)) no = orb n m (l.getD k 0) (orbs n m (l.take k) no)) := fun k hk => ⟨by rw [List.take_succ_eq_append_getElem hk, orbs_snoc, List.getD_eq_getElem?_getD, List.getElem?_eq_getElem hk]; rfl⟩
      have HE : Aside0 (orbs n m (l.take l.length) no = orbs n m l no) := ⟨by rw [List.take_length]⟩
      simp only [Int.toNat_natCast]
      obtain ⟨ll, hll⟩ : ∃ ll, ll = l.length := ⟨_, rfl⟩
      rw [← hll] at HC3 HR HE hbig HT
      clear hll
      go_enter Try.func21, Try.ntmps21
      go_wp2_with (first | ((with_reducible refine gate_dst (N := 5) rfl ?_); refine box_event ?hg (N := 5) ?hd (cs := cs) (t := 51) ?hr ?_; (case hd => rfl); (case hg => rfl); (case hr => first | (go_simp; done) | (go_simp; rfl)); intro gb hgb w1 hbox hb1; have BW0 := Aside0.mk hb1; have hcell1 := (blk_cell hbox 1).trans HC1.out; have hcell3 := (blk_cell hbox 3).trans HC3.out; clear hgb hbox hb1) | (go_at_call 54; refine (HD.out _).mono ?_; rintro e w' ⟨rfl, rfl⟩) | ((with_reducible refine gate_dst (N := 7) rfl ?_); refine box_event ?hg (N := 7) ?hd (cs := fl no) (t := 125) ?hr ?_; (case hd => rfl); (case hg => rfl); (case hr => first | (go_simp; done) | (go_simp; rfl)); intro gf hgf w2 hbox hb2; have BW1 := Aside0.mk (below_then BW0.out BW0.out.size hb2); have BK := Aside0.mk hbox; have HG := Aside0.mk ((by rw [hgf]; exact BW0.out.size) : w.heap.size ≤ gf); replace hcell3 := (hb2.cell (World.block_lt_of_cell? _ _ hcell3)).trans hcell3; clear hgf hbox hb2 hcell1))
      clear hcell3 BW0
      go_loopg [9, 20] ll (fun gg _ s20 wr => ∃ kk : Nat, kk ≤ ll ∧ ll - kk ≤ gg ∧ s20 = .int .i64 kk ∧ Aside0 (wr.heap[gf]? = some (.cells (fl (orbs n m (l.take kk) no)) 125 (0, 0))) ∧ Aside0 (Below w.heap.size w wr))
      case atStart => exact ⟨0, by omega, by omega, rfl, ⟨by exact BK.out⟩, ⟨by repeat (first | (with_reducible first | exact BW1.out | apply below_alloc | apply pw_below_drewN | apply below_drew1) | exact BW1.out)⟩⟩
      case round =>
        clear BK BW1
        obtain ⟨kk, hkk, hgk, rfl, BK, BW⟩ := hrel
        by_cases hlt : kk < ll
        · have hltz : (kk : Int) < (ll : Int) := by omega
          have p0 : (0 : Int) ≤ (kk : Int) := by omega
          obtain ⟨ad, cc_, rfl, _, hK_, hcell_⟩ := Kd.C_get (Kd.C_below HR.out BW.out) 0 (kk : Int) p0 hltz
          obtain rfl : cc_ = [.int .i64 (l.getD kk 0)] := hK_
          have hx0 := hcell_ 0 _ rfl
          simp only [show (Kd.int .i64).sz = 1 from rfl, Nat.mul_one, Nat.add_zero, Int.toNat_natCast] at hx0
          clear hcell_
          obtain ⟨x, hx⟩ : ∃ x, x = l.getD kk 0 := ⟨_, rfl⟩
          have HTk := (HT kk (by have := HR.out.1; omega)).out
          rw [← hx] at hx0 HTk
          have HTk := Aside0.mk HTk
          have HMk := Aside0.mk (HM.out _ (HLE kk).out x gf wr BK.out)
          clear hx
          go_wp2_with (go_at_call 55; refine HMk.out.mono ?_; rintro e w3 ⟨rfl, hg3, hb3⟩; have BK3 := Aside0.mk hg3; have BW3 := Aside0.mk (BW.out.trans (hb3.mono HG.out)); clear hg3 hb3)
          go_roundg (ll - (kk + 1))
          case measure => omega
          case rel => exact ⟨kk + 1, by omega, by omega, by go_num, ⟨by rw [HTk.out]; exact BK3.out⟩, BW3⟩
        · have hltz : ¬ (kk : Int) < (ll : Int) := by omega
          obtain rfl : kk = ll := by omega
          have BKE := Aside0.mk (HE.out ▸ BK.out)
          have hlen := orbs_len n m l no
          obtain ⟨bs, hbs⟩ : ∃ bs, orbs n m l no = bs := ⟨_, rfl⟩
          have BKE := Aside0.mk (hbs ▸ BKE.out)
          have HL := Aside0.mk (fun w => list_ bs (hbs ▸ hlen) w)
          have HI := Aside0.mk (fl_info bs (hbs ▸ hlen))
          have HO := Aside0.mk hbs
          clear hbs hlen HLE HT HE
          go_wp2_with (first | ((with_reducible refine gate_dst (N := 29) rfl ?_); refine wpList_load_row rfl 125 _ rfl gf rfl 125 (fl bs) (0, 0) _ BKE.out Try.underlying125 rfl HI.out ?_) | (go_at_call 56; refine (HL.out _).mono ?_; rintro e w3 ⟨v3, rfl, hR, hb3⟩; have BW3 := Aside0.mk (below_then BW.out BW.out.size hb3); have HR3 := Aside0.mk (Kd.R_lower hR BW.out.size); clear hR hb3))
          go_ret
          refine ⟨v3, rfl, ?_, BW3.out⟩
          rw [HO.out]; exact HR3.out


def fnd (s : ByteArray) (i : Int) (x : S73) : Bool := x.f0.toList == s.toList && x.f1.f2 == i
set_option maxHeartbeats 4000000 in
theorem cl61 (s : ByteArray) (i : Int) (g : Nat) (w : World) (hg : w.heap[g]? = some (.cells #[.string s, .int .i64 i] 64 (0, 0))) : PredK Try.prog 61 #[.pointer (some ⟨g, 0, none⟩)] k73 agg (fnd s i) w := by
  intro W x cs hb hK
  have hc0 : W.cell? ⟨g, 0, none⟩ = some (.string s) := (hb.cell (p := ⟨g, 0, none⟩) (blk_lt hg)).trans (blk_cell hg 0)
  have hc1 : W.cell? ⟨g, 1, none⟩ = some (.int .i64 i) := (hb.cell (p := ⟨g, 1, none⟩) (blk_lt hg)).trans (blk_cell hg 1)
  have hlt : g < W.heap.size := Nat.lt_of_lt_of_le (blk_lt hg) hb.size
  have hx := k73_open hK
  have h0 : cs.toArray[0]? = some (.string x.f0) := by rw [hx]; rfl
  have h3 : cs.toArray[3]? = some (.int .i64 x.f1.f2) := by rw [hx]; rfl
  obtain ⟨ca, hca⟩ : ∃ ca, ca = cs.toArray := ⟨_, rfl⟩
  show Calls Try.prog 61 #[.agg cs.toArray, .pointer (some ⟨g, 0, none⟩)] W _
  rw [← hca] at h0 h3 ⊢
  clear hx hK hca hg hb
  have H0 := Aside0.mk h0
  have H3 := Aside0.mk h3
  have HL := Aside0.mk hlt
  have HC0 := Aside0.mk hc0
  have HC1 := Aside0.mk hc1
  clear h0 h3 hc0 hc1 hlt
  unfold fnd
  cases e1 : (x.f0.toList == s.toList) with
  | true =>
    go_enter Try.func61, Try.ntmps61
    go_wp2_with ((with_reducible refine gate_dst (N := 2) rfl ?_); refine box_event ?hg (N := 2) ?hd (cs := ca) (t := 73) ?hr ?_; (case hd => rfl); (case hg => rfl); (case hr => first | (go_simp; done) | (go_simp; rfl)); intro gb hgb w1 hbox hb1; have BW0 := Aside0.mk hb1; have k0 := (blk_cell hbox 0).trans H0.out; have k3 := (blk_cell hbox 3).trans H3.out; have k1 := (hb1.cell (p := ⟨g, 0, none⟩) HL.out).trans HC0.out; have k2 := (hb1.cell (p := ⟨g, 1, none⟩) HL.out).trans HC1.out; clear hgb hbox hb1)
    go_ret
    exact ⟨by simp, BW0.out⟩
  | false =>
    go_enter Try.func61, Try.ntmps61
    go_wp2_with ((with_reducible refine gate_dst (N := 2) rfl ?_); refine box_event ?hg (N := 2) ?hd (cs := ca) (t := 73) ?hr ?_; (case hd => rfl); (case hg => rfl); (case hr => first | (go_simp; done) | (go_simp; rfl)); intro gb hgb w1 hbox hb1; have BW0 := Aside0.mk hb1; have k0 := (blk_cell hbox 0).trans H0.out; have k3 := (blk_cell hbox 3).trans H3.out; have k1 := (hb1.cell (p := ⟨g, 0, none⟩) HL.out).trans HC0.out; have k2 := (hb1.cell (p := ⟨g, 1, none⟩) HL.out).trans HC1.out; clear hgb hbox hb1)
    go_ret
    exact ⟨by simp, BW0.out⟩
def tier_Find.f (l0 : List (S73)) (a1_0 : ByteArray) (a1_1 : Int) : Option (Int × Bool) := some (max 0 (idx (fnd a1_0 a1_1) l0 0), decide (idx (fnd a1_0 a1_1) l0 0 ≥ 0))
set_option maxHeartbeats 4000000 in
theorem tier_Find.calls (A0 : Option Addr) (c0 : Nat) (l0 : List (S73)) (a1_0 : ByteArray) (a1_1 : Int) (r1 : Int) (r2 : Bool) (w : World) (hr0 : Kd.C k73 w A0 l0.length l0) (hc0 : l0.length ≤ c0) (h : tier_Find.f l0 a1_0 a1_1 = some (r1, r2)) :
    Calls Try.prog 25 #[.slice A0 l0.length c0, .agg #[.string a1_0, .int .i64 a1_1]] w fun e w' => e = .returned (.tuple #[.int .i64 r1, .bool r2]) ∧ Below w.heap.size w w' := by
  simp only [tier_Find.f, Option.some.injEq, Prod.mk.injEq] at h
  obtain ⟨rfl, rfl⟩ := h
  have eg := enters_of Try.func61 (by kernel_rfl) rfl
  have HF := Aside0.mk (fun (g : Nat) (w1 : World) (hb : Below w.heap.size w w1) (hg : w1.heap[g]? = some (.cells #[.string a1_0, .int .i64 a1_1] 64 (0, 0))) => IndexFunc60 61 #[.pointer (some ⟨g, 0, none⟩)] eg (fnd a1_0 a1_1) A0 c0 l0 w1 (Kd.C_below hr0 hb) hc0 (cl61 a1_0 a1_1 g w1 hg))
  clear hr0 hc0 eg
  obtain ⟨n, hn⟩ : ∃ n, n = l0.length := ⟨_, rfl⟩
  obtain ⟨i, hi⟩ : ∃ i, i = idx (fnd a1_0 a1_1) l0 0 := ⟨_, rfl⟩
  rw [← hi, ← hn] at HF ⊢
  clear hi hn
  go_enter Try.func25, Try.ntmps25
  go_wp2_with (first | ((with_reducible refine gate_dst (N := 3) rfl ?_); refine box_event ?hg (N := 3) ?hd (cs := #[.string a1_0, .int .i64 a1_1]) (t := 64) ?hr ?_; (case hd => rfl); (case hg => rfl); (case hr => first | (go_simp; done) | (go_simp; rfl)); intro gb hgb w1 hbox hb1; have BW0 := Aside0.mk hb1; have BK := Aside0.mk hbox; clear hgb hbox hb1) | (go_at_call 60; refine (HF.out gb _ BW0.out BK.out).mono ?_; rintro e w3 ⟨rfl, hb3⟩; have BW3 := Aside0.mk (below_then BW0.out BW0.out.size hb3); clear hb3))
  go_ret2
  exact ⟨rfl, BW3.out⟩


def tier_Orbit.f (a0 : Int) (a1 : Bool) (a2 : Int) : Option (List Int) := some (orbitL a0 a1 a2)
theorem tier_Orbit.calls (a0 : Int) (a1 : Bool) (a2 : Int) (r : List Int) (w : World) (h : tier_Orbit.f a0 a1 a2 = some r) :
    Calls Try.prog 19 #[.int .i64 a0, .bool a1, .int .i64 a2] w fun e w' => ∃ v0_ : Value, e = .returned (v0_) ∧ Kd.R (Kd.int .i64) 3 w' w.heap.size (fun _ => True) v0_ r ∧ Below w.heap.size w w' := by
  obtain rfl := Option.some.inj h
  exact orbit a0 a1 a2 w
set_option maxRecDepth 100000 in
def tier_Positions.f (a0 : Int) (a1 : Bool) (a2_0 : ByteArray) (a2_1 : Int) (a2_2 : Int) (l2_3 : List Int) (a2_4 : Int) (a2_5 : Bool) (a2_6 : ByteArray) (a2_7 : Bool) (a2_8 : ByteArray) (a2_9 : Bool) (a2_10 : ByteArray) (a2_11 : Bool) (a2_12 : ByteArray) (a2_13 : Bool) (a2_14 : ByteArray) (a2_15 : Bool) (a2_16 : ByteArray) (a2_17 : Bool) (a2_18 : ByteArray) (a2_19 : Bool) (a2_20 : ByteArray) (a2_21 : Bool) (a2_22 : ByteArray) (a2_23 : Bool) (a2_24 : ByteArray) (a2_25 : Bool) (a2_26 : ByteArray) (a2_27 : Bool) (a2_28 : ByteArray) (a2_29 : Bool) (a2_30 : ByteArray) (a2_31 : Bool) (a2_32 : ByteArray) (a2_33 : Bool) (a2_34 : ByteArray) (a2_35 : Bool) (a2_36 : ByteArray) (a2_37 : Bool) (a2_38 : ByteArray) (a2_39 : Bool) (a2_40 : ByteArray) (a2_41 : Bool) (a2_42 : ByteArray) (a2_43 : Bool) (a2_44 : ByteArray) (l2_45 : List (S64)) : Option (List Int) := some (posL a0 a1 a2_1 l2_3)
set_option maxRecDepth 100000 in
theorem tier_Positions.calls (a0 : Int) (a1 : Bool) (a2_0 : ByteArray) (a2_1 : Int) (a2_2 : Int) (A2_3 : Option Addr) (c2_3 : Nat) (l2_3 : List Int) (a2_4 : Int) (a2_5 : Bool) (a2_6 : ByteArray) (a2_7 : Bool) (a2_8 : ByteArray) (a2_9 : Bool) (a2_10 : ByteArray) (a2_11 : Bool) (a2_12 : ByteArray) (a2_13 : Bool) (a2_14 : ByteArray) (a2_15 : Bool) (a2_16 : ByteArray) (a2_17 : Bool) (a2_18 : ByteArray) (a2_19 : Bool) (a2_20 : ByteArray) (a2_21 : Bool) (a2_22 : ByteArray) (a2_23 : Bool) (a2_24 : ByteArray) (a2_25 : Bool) (a2_26 : ByteArray) (a2_27 : Bool) (a2_28 : ByteArray) (a2_29 : Bool) (a2_30 : ByteArray) (a2_31 : Bool) (a2_32 : ByteArray) (a2_33 : Bool) (a2_34 : ByteArray) (a2_35 : Bool) (a2_36 : ByteArray) (a2_37 : Bool) (a2_38 : ByteArray) (a2_39 : Bool) (a2_40 : ByteArray) (a2_41 : Bool) (a2_42 : ByteArray) (a2_43 : Bool) (a2_44 : ByteArray) (A2_45 : Option Addr) (c2_45 : Nat) (l2_45 : List (S64)) (r : List Int) (w : World) (hr2_3 : Kd.C (Kd.int .i64) w A2_3 l2_3.length l2_3) (hc2_3 : l2_3.length ≤ c2_3) (hr2_45 : Kd.C k64 w A2_45 l2_45.length l2_45) (hc2_45 : l2_45.length ≤ c2_45) (h : tier_Positions.f a0 a1 a2_0 a2_1 a2_2 l2_3 a2_4 a2_5 a2_6 a2_7 a2_8 a2_9 a2_10 a2_11 a2_12 a2_13 a2_14 a2_15 a2_16 a2_17 a2_18 a2_19 a2_20 a2_21 a2_22 a2_23 a2_24 a2_25 a2_26 a2_27 a2_28 a2_29 a2_30 a2_31 a2_32 a2_33 a2_34 a2_35 a2_36 a2_37 a2_38 a2_39 a2_40 a2_41 a2_42 a2_43 a2_44 l2_45 = some r) :
    Calls Try.prog 21 #[.int .i64 a0, .bool a1, .agg #[.string a2_0, .int .i64 a2_1, .int .i64 a2_2, .slice A2_3 l2_3.length c2_3, .int .i64 a2_4, .bool a2_5, .string a2_6, .bool a2_7, .string a2_8, .bool a2_9, .string a2_10, .bool a2_11, .string a2_12, .bool a2_13, .string a2_14, .bool a2_15, .string a2_16, .bool a2_17, .string a2_18, .bool a2_19, .string a2_20, .bool a2_21, .string a2_22, .bool a2_23, .string a2_24, .bool a2_25, .string a2_26, .bool a2_27, .string a2_28, .bool a2_29, .string a2_30, .bool a2_31, .string a2_32, .bool a2_33, .string a2_34, .bool a2_35, .string a2_36, .bool a2_37, .string a2_38, .bool a2_39, .string a2_40, .bool a2_41, .string a2_42, .bool a2_43, .string a2_44, .slice A2_45 l2_45.length c2_45]] w fun e w' => ∃ v0_ : Value, e = .returned (v0_) ∧ Kd.R (Kd.int .i64) 3 w' w.heap.size (fun _ => True) v0_ r ∧ Below w.heap.size w w' := by
  obtain rfl := Option.some.inj h
  exact positions a0 a1 _ a2_1 A2_3 c2_3 l2_3 rfl rfl w hr2_3
end Go.Proofs.Ytncemdpmooakgaa.XK
