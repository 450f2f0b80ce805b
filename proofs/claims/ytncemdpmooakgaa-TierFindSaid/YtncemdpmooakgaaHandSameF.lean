/- culetref14.Same, for two designs whose tiers read the same. -/
import Derived.Test.YtncemdpmooakgaaHandSame
namespace Go.Proofs.Ytncemdpmooakgaa.XK
open Go Go.RowKit Go.Proofs Go.Proofs.YtncemdpmooakgaaW.PrintWords Go.Proofs.YtncemdpmooakgaaW.PrintLast Go.Proofs.Ytncemdpmooakgaa.XW Go.Proofs.Ytncemdpmooakgaa.XT Go.Lib Go.Sort
set_option linter.unusedVariables false
set_option linter.unusedSimpArgs false
def bq (a b : ByteArray) : Bool := a.data == b.data
theorem bq_eq {a b : ByteArray} (h : bq a b = true) : a = b := by
  have h : a.data = b.data := eq_of_beq h
  cases a; cases b
  simpa using h
theorem bq_refl (a : ByteArray) : bq a a = true := by unfold bq; exact beq_self_eq_true _
def qL {α : Type} (q : α → α → Bool) : List α → List α → Bool
  | [], [] => true
  | a :: l, b :: m => q a b && qL q l m
  | _, _ => false
theorem qL_eq {α : Type} {q : α → α → Bool} (hq : ∀ a b, q a b = true → a = b) : ∀ l m : List α, qL q l m = true → l = m
  | [], [], _ => rfl
  | a :: l, b :: m, h => by
    simp only [qL, Bool.and_eq_true] at h
    rw [hq a b h.1, qL_eq hq l m h.2]
  | [], _ :: _, h => by simp [qL] at h
  | _ :: _, [], h => by simp [qL] at h
theorem qL_refl {α : Type} {q : α → α → Bool} (hq : ∀ a, q a a = true) : ∀ l : List α, qL q l l = true
  | [] => rfl
  | a :: l => by simp only [qL, hq a, qL_refl hq l, Bool.and_self]
def q41 (a b : S41) : Bool := (a.f0 == b.f0) && bq a.f1 b.f1
theorem q41_eq (a b : S41) (h : q41 a b = true) : a = b := by
  simp only [q41, Bool.and_eq_true] at h
  cases a; cases b
  replace h1 := eq_of_beq h.1
  replace h2 := bq_eq h.2
  simp only at h1 h2
  rw [h1, h2]
theorem q41_refl (a : S41) : q41 a a = true := by simp [q41, bq_refl]
def q44 (a b : S44) : Bool := q41 a.f0.f0 b.f0.f0 && (q41 a.f0.f1 b.f0.f1 && (q41 a.f0.f2 b.f0.f2 && (q41 a.f0.f3 b.f0.f3 && q41 a.f1 b.f1)))
theorem q44_eq (a b : S44) (h : q44 a b = true) : a = b := by
  simp only [q44, Bool.and_eq_true] at h
  obtain ⟨h0, h1, h2, h3, h4⟩ := h
  obtain ⟨⟨a0, a1, a2, a3⟩, a4⟩ := a
  obtain ⟨⟨b0, b1, b2, b3⟩, b4⟩ := b
  replace h0 := q41_eq _ _ h0
  replace h1 := q41_eq _ _ h1
  replace h2 := q41_eq _ _ h2
  replace h3 := q41_eq _ _ h3
  replace h4 := q41_eq _ _ h4
  simp only at h0 h1 h2 h3 h4
  subst h0 h1 h2 h3 h4
  rfl
theorem q44_refl (a : S44) : q44 a a = true := by simp [q44, q41_refl]
def q64 (a b : S64) : Bool := bq a.f0 b.f0 && (a.f1 == b.f1)
theorem q64_eq (a b : S64) (h : q64 a b = true) : a = b := by
  simp only [q64, Bool.and_eq_true] at h
  obtain ⟨h0, h1⟩ := h
  obtain ⟨a0, a1⟩ := a
  obtain ⟨b0, b1⟩ := b
  replace h0 := bq_eq h0
  replace h1 := eq_of_beq h1
  simp only at h0 h1
  subst h0 h1
  rfl
theorem q64_refl (a : S64) : q64 a a = true := by simp [q64, bq_refl]
def q49 (a b : S49) : Bool := (a.f0 == b.f0) && (q44 a.f1 b.f1 && (q44 a.f2.f0 b.f2.f0 && (q44 a.f2.f1 b.f2.f1 && (q44 a.f2.f2 b.f2.f2 && qL q64 a.f3 b.f3))))
theorem q49_eq (a b : S49) (h : q49 a b = true) : a = b := by
  simp only [q49, Bool.and_eq_true] at h
  obtain ⟨h0, h1, h2, h3, h4, h5⟩ := h
  obtain ⟨a0, a1, ⟨a2, a3, a4⟩, a5⟩ := a
  obtain ⟨b0, b1, ⟨b2, b3, b4⟩, b5⟩ := b
  replace h0 := eq_of_beq h0
  replace h1 := q44_eq _ _ h1
  replace h2 := q44_eq _ _ h2
  replace h3 := q44_eq _ _ h3
  replace h4 := q44_eq _ _ h4
  replace h5 := qL_eq q64_eq _ _ h5
  simp only at h0 h1 h2 h3 h4 h5
  subst h0 h1 h2 h3 h4 h5
  rfl
theorem q49_refl (a : S49) : q49 a a = true := by simp [q49, q44_refl, qL_refl q64_refl]
def q51 (a b : S51) : Bool := bq a.f0 b.f0 && ((a.f1 == b.f1) && ((a.f2 == b.f2) && ((a.f3 == b.f3) && q49 a.f4 b.f4)))
theorem q51_eq (a b : S51) (h : q51 a b = true) : a = b := by
  simp only [q51, Bool.and_eq_true] at h
  obtain ⟨h0, h1, h2, h3, h4⟩ := h
  obtain ⟨a0, a1, a2, a3, a4⟩ := a
  obtain ⟨b0, b1, b2, b3, b4⟩ := b
  replace h0 := bq_eq h0
  replace h1 := eq_of_beq h1
  replace h2 := eq_of_beq h2
  replace h3 := eq_of_beq h3
  replace h4 := q49_eq _ _ h4
  simp only at h0 h1 h2 h3 h4
  subst h0 h1 h2 h3 h4
  rfl
theorem q51_refl (a : S51) : q51 a a = true := by simp [q51, bq_refl, q49_refl]
/-- Told for equal designs alone. -/
def culetref14_Same.f (a0_0 : ByteArray) (a0_1 : Int) (a0_2 : Bool) (l0_3 : List (S51)) (a1_0 : ByteArray) (a1_1 : Int) (a1_2 : Bool) (l1_3 : List (S51)) : Option (Bool) :=
  if (bq a0_0 a1_0 && ((a0_1 == a1_1) && ((a0_2 == a1_2) && qL q51 l0_3 l1_3))) = true then some true else none
theorem culetref14_Same.self (a0_0 : ByteArray) (a0_1 : Int) (a0_2 : Bool) (l0_3 : List (S51)) : culetref14_Same.f a0_0 a0_1 a0_2 l0_3 a0_0 a0_1 a0_2 l0_3 = some true := by
  unfold culetref14_Same.f
  rw [if_pos (by simp [bq_refl, qL_refl q51_refl])]
set_option maxHeartbeats 4000000 in
set_option maxRecDepth 100000 in
theorem culetref14_Same.calls (a0_0 : ByteArray) (a0_1 : Int) (a0_2 : Bool) (A0_3 : Option Addr) (c0_3 : Nat) (l0_3 : List (S51)) (a1_0 : ByteArray) (a1_1 : Int) (a1_2 : Bool) (A1_3 : Option Addr) (c1_3 : Nat) (l1_3 : List (S51)) (r : Bool) (w : World) (hr0_3 : Kd.C k51 w A0_3 l0_3.length l0_3) (hc0_3 : l0_3.length ≤ c0_3) (hr1_3 : Kd.C k51 w A1_3 l1_3.length l1_3) (hc1_3 : l1_3.length ≤ c1_3) (h : culetref14_Same.f a0_0 a0_1 a0_2 l0_3 a1_0 a1_1 a1_2 l1_3 = some r) :
    Calls Try.prog 31 #[.agg #[.string a0_0, .int .i64 a0_1, .bool a0_2, .slice A0_3 l0_3.length c0_3], .agg #[.string a1_0, .int .i64 a1_1, .bool a1_2, .slice A1_3 l1_3.length c1_3]] w fun e w' => e = .returned (.bool r) ∧ Below w.heap.size w w' := by
  unfold culetref14_Same.f at h
  by_cases hq : (bq a0_0 a1_0 && ((a0_1 == a1_1) && ((a0_2 == a1_2) && qL q51 l0_3 l1_3))) = true
  case neg => rw [if_neg hq] at h; cases h
  rw [if_pos hq] at h
  injection h with h
  subst h
  simp only [Bool.and_eq_true] at hq
  obtain ⟨g0, g1, g2, g3⟩ := hq
  obtain rfl := bq_eq g0
  obtain rfl := eq_of_beq g1
  obtain rfl := eq_of_beq g2
  obtain rfl := qL_eq q51_eq _ _ g3
  clear g0 g1 g2 g3
  have hbig : l0_3.length ≤ 9223372036854775807 := hr0_3.2.1
  obtain ⟨n, hn⟩ : ∃ n, n = l0_3.length := ⟨_, rfl⟩
  rw [← hn] at hr0_3 hr1_3 hbig ⊢
  have HA := Aside0.mk hr0_3
  have HB := Aside0.mk hr1_3
  have hh1 : (a0_1 != a0_1) = false := by simp
  have hm1 : (a0_2 != a0_2) = false := by simp
  have hs1 : (a0_0.toList == a0_0.toList) = true := by simp
  have hll : ((n : Int) != (n : Int)) = false := by simp
  clear hr0_3 hr1_3 hn hc0_3 hc1_3
  go_enter Try.func31, Try.ntmps31
  go_wp2_with (first
    | ((with_reducible refine gate_dst (N := 2) rfl ?_); refine box_event ?hg (N := 2) ?hd (cs := #[.string a0_0, .int .i64 a0_1, .bool a0_2, .slice A0_3 n c0_3]) (t := 36) ?hr ?_; (case hd => rfl); (case hg => rfl); (case hr => first | (go_simp; done) | (go_simp; rfl)); intro ga hga w1 hbox hb1; have BW := Aside0.mk hb1; have BA := Aside0.mk hbox; have GA := Aside0.mk hga; clear hga hb1 hbox)
    | ((with_reducible refine gate_dst (N := 3) rfl ?_); refine box_event ?hg (N := 3) ?hd (cs := #[.string a0_0, .int .i64 a0_1, .bool a0_2, .slice A1_3 n c1_3]) (t := 36) ?hr ?_; (case hd => rfl); (case hg => rfl); (case hr => first | (go_simp; done) | (go_simp; rfl)); intro gb hgb w2 hbox hb1; replace BA := Aside0.mk ((hb1.block ga (blk_lt BA.out)).trans BA.out); replace BW := Aside0.mk (below_then BW.out BW.out.size hb1); have BB := Aside0.mk hbox; have za0 := (blk_cell BA.out 0).trans rfl; have zb0 := (blk_cell BB.out 0).trans rfl; have za1 := (blk_cell BA.out 1).trans rfl; have zb1 := (blk_cell BB.out 1).trans rfl; have za2 := (blk_cell BA.out 2).trans rfl; have zb2 := (blk_cell BB.out 2).trans rfl; have za3 := (blk_cell BA.out 3).trans rfl; have zb3 := (blk_cell BB.out 3).trans rfl; clear hgb hb1 hbox)
    | (simp only [hs1, Bool.not_true]) | (simp only [hh1]) | (simp only [hm1]) | (simp only [hll]))
  go_loopg [5] n (fun gg v5 wr => ∃ i : Nat, i ≤ n ∧ n - i ≤ gg ∧ v5 = .int .i64 i ∧ Aside0 (Below w2.heap.size w2 wr))
  case atStart => exact ⟨0, Nat.zero_le _, by omega, rfl, ⟨Below.refl _ _⟩⟩
  case round =>
    obtain ⟨i, hi, hgg, rfl, HR⟩ := hrel
    have p0 : (0 : Int) ≤ (i : Int) := by omega
    have ya3 : wr.cell? ⟨ga, 3, none⟩ = some (.slice A0_3 n c0_3) := (blk_cell ((HR.out.block ga (blk_lt BA.out)).trans BA.out) 3).trans rfl
    have yb3 : wr.cell? ⟨gb, 3, none⟩ = some (.slice A1_3 n c1_3) := (blk_cell ((HR.out.block gb (blk_lt BB.out)).trans BB.out) 3).trans rfl
    by_cases hlt : i < n
    · have hltz : (i : Int) < (n : Int) := by omega
      have hd := decide_eq_true hltz
      have hbw := below_then BW.out BW.out.size HR.out
      obtain ⟨ad, ca, e1, hs1, hK, hcA⟩ := row_elem (Kd.C_below HA.out hbw) z51 i hlt
      obtain ⟨bd, cb, e2, hs2, hK', hcB⟩ := row_elem (Kd.C_below HB.out hbw) z51 i hlt
      cases e1; cases e2
      have HT := Aside0.mk (tierEq hK hK')
      have HCA := Aside0.mk hcA
      have HCB := Aside0.mk hcB
      have HS1 := Aside0.mk (show ca.size = 46 from hs1)
      have HS2 := Aside0.mk (show cb.size = 46 from hs2)
      clear hK hK' hcA hcB hs1 hs2 hbw
      go_wp2
      have k3 := cell_regrown ya3
      have m3 := cell_regrown yb3
      have cT := fun x os => Calls.regrown_of (HT.out _ (below_regrown wr x os))
      have lA : ∀ W : World, (∃ p : Regrown, W = grow (redrawn wr p.d) p.os) → ∀ j v, ca[j]? = some v → W.cell? ((ad.add (i * 46)).add j) = some v := fun W ⟨p, hp⟩ j v hv => by rw [hp]; exact cell_regrown (HCA.out j v hv) _ _
      have lB : ∀ W : World, (∃ p : Regrown, W = grow (redrawn wr p.d) p.os) → ∀ j v, cb[j]? = some v → W.cell? ((bd.add (i * 46)).add j) = some v := fun W ⟨p, hp⟩ j v hv => by rw [hp]; exact cell_regrown (HCB.out j v hv) _ _
      have LA := Aside0.mk lA
      have LB := Aside0.mk lB
      clear lA lB
      refine wp_region_quiet_below (by kernel_rfl) (by kernel_rfl) ?_
      repeat (first
        | (go_big_quiet_want; (first | (refine quiet_cells 51 _ 46 ca rfl Try.underlying51 rfl (by kernel_rfl) HS1.out rfl LA.out ?_) | (refine quiet_cells 51 _ 46 cb rfl Try.underlying51 rfl (by kernel_rfl) HS2.out rfl LB.out ?_)); (try simp only [Act.put, List.setIfInBounds_toArray, List.set_cons_zero, List.set_cons_succ]); go_big_quiet_on)
        | go_big_quiet_step (exact cT _ _))
      refine wpQuiet_nil ?_
      intro _ hw'
      obtain ⟨⟨dq, osq⟩, hw''⟩ := hw'
      subst hw''
      have hb' := below_regrown wr dq osq
      clear cT k3 m3
      generalize grow (redrawn wr dq) osq = wn at hb' ⊢
      go_wp2
      go_roundg (n - (i + 1))
      case measure => omega
      case rel => exact ⟨i + 1, by omega, by omega, by go_num, ⟨below_then HR.out HR.out.size hb'⟩⟩
    · obtain rfl : i = n := by omega
      have hd : decide ((i : Int) < (i : Int)) = false := decide_eq_false (by omega)
      go_wp2
      go_ret
      exact ⟨rfl, below_then BW.out BW.out.size HR.out⟩
end Go.Proofs.Ytncemdpmooakgaa.XK
