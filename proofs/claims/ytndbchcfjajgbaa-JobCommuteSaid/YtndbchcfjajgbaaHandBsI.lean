/- job.find, walked: the binary search among items that are sorted by identifiers. (Turned out of HandBs and HandOrd by mkbsI.py.) -/
import Derived.Test.YtndbchcfjajgbaaXB
import Derived.Test.YtndbchcfjajgbaaHandOrd
namespace Go.Proofs.Ytndbchcfjajgbaa.XP
open Go.Proofs.Ytndbchcfjajgbaa.XB Go.Proofs.Ytndbchcfjajgbaa.XQ
open Go Go.RowKit Go.Proofs Go.Proofs.YtndbchcfjajgbaaW.PrintWords Go.Proofs.YtndbchcfjajgbaaW.PrintLast Go.Proofs.Ytndbchcfjajgbaa.XH
set_option linter.unusedVariables false
set_option linter.unusedSimpArgs false
set_option maxHeartbeats 4000000 in
theorem cl113 (x : S99) (s : ByteArray) (w : World) : Calls Try.prog 113 #[.agg #[.string x.f0.f0, .string x.f0.f1, .string x.f0.f2, .int .i64 x.f0.f3, .int .i64 x.f0.f4, .int .i64 x.f1, .int .i64 x.f2, .int .i64 x.f3, .int .i64 x.f4, .string x.f5.f0, .string x.f5.f1, .int .i64 x.f5.f2, .int .i64 x.f5.f3], .string s] w fun e w' => e = .returned (.int .i64 (cmpB x.f0.f0 s)) ∧ Below w.heap.size w w' := by
  have H := Aside0.mk (fun w => cmp104 x.f0.f0 s w)
  obtain ⟨c, hc⟩ : ∃ c, c = cmpB x.f0.f0 s := ⟨_, rfl⟩
  rw [← hc] at H ⊢
  clear hc
  go_enter Try.func113, Try.ntmps113
  go_wp2_with (first | ((with_reducible refine gate_dst (N := 2) rfl ?_); refine bx_ (N := 2) (cs := #[.string x.f0.f0, .string x.f0.f1, .string x.f0.f2, .int .i64 x.f0.f3, .int .i64 x.f0.f4, .int .i64 x.f1, .int .i64 x.f2, .int .i64 x.f3, .int .i64 x.f4, .string x.f5.f0, .string x.f5.f1, .int .i64 x.f5.f2, .int .i64 x.f5.f3]) (t := 99) ?_; intro gb hgb w1 hbox hb1; have BW0 := Aside0.mk hb1; have k0 := (blk_cell hbox 0).trans rfl; clear hgb hbox hb1) | (go_at_call 104; refine (H.out _).mono ?_; rintro e w' ⟨rfl, rfl⟩))
  go_ret
  exact ⟨rfl, BW0.out⟩
set_option maxHeartbeats 4000000 in
set_option maxRecDepth 100000 in
theorem bs112 (s : ByteArray) (A0 : Option Addr) (c0 : Nat) (l0 : List S99) (w : World) (hr0 : Kd.C k99 w A0 l0.length l0) (hn : l0.length ≤ 1000) (i0 : Nat) (h0 : i0 ≤ l0.length)
    (h1 : ∀ k : Nat, k < i0 → cmpB (rd_T99 l0 k).f0.f0 s < 0) (h2 : ∀ k : Nat, i0 ≤ k → k < l0.length → ¬ cmpB (rd_T99 l0 k).f0.f0 s < 0) :
    Calls Try.prog 112 #[.slice A0 l0.length c0, .string s, .func (.func 113) #[] #[]] w fun e w' => e = .returned (.tuple #[.int .i64 (i0 : Nat), .bool (decide (i0 < l0.length) && cmpB (rd_T99 l0 i0).f0.f0 s == 0)]) ∧ Below w.heap.size w w' := by
  have HR0 := Aside0.mk hr0
  have H1 := Aside0.mk h1
  have H2 := Aside0.mk h2
  obtain ⟨n, hn'⟩ : ∃ n, n = l0.length := ⟨_, rfl⟩
  have HR := hr0
  rw [← hn'] at hn h0 H2 HR ⊢
  have HR := Aside0.mk HR
  clear hr0 h1 h2 HR0 hn'
  go_enter Try.func112, Try.ntmps112
  go_wp2
  go_loopg [9, 10, 11] n (fun gg v9 v10 _ wr => ∃ i j : Nat, v9 = .int .i64 i ∧ v10 = .int .i64 j ∧ i ≤ i0 ∧ i0 ≤ j ∧ j ≤ n ∧ j - i ≤ gg ∧ Aside0 (Below w.heap.size w wr))
  case atStart => exact ⟨0, n, rfl, rfl, Nat.zero_le _, h0, Nat.le_refl _, by omega, ⟨Below.refl _ w⟩⟩
  case round =>
    obtain ⟨i, j, rfl, rfl, hi, hj, hjn, hgg, BW⟩ := hrel
    by_cases hlt : i < j
    · have hltz : (i : Int) < (j : Int) := by omega
      have hmi : ((i : Int) + (j : Int)) / 2 = (((i + j) / 2 : Nat) : Int) := by omega
      have p0 : 0 ≤ ((i : Int) + (j : Int)) / 2 := by omega
      have q0 : ((i : Int) + (j : Int)) / 2 < (n : Int) := by omega
      obtain ⟨ad, e1, hx0, hx1, hx2, hx3, hx4, hx5, hx6, hx7, hx8, hx9, hx10, hx11, hx12⟩ := at_T99 (Kd.C_below HR.out BW.out) _ p0 q0
      cases e1
      have htn : (((i : Int) + (j : Int)) / 2).toNat = (i + j) / 2 := by omega
      rw [htn] at hx0 hx1 hx2 hx3 hx4 hx5 hx6 hx7 hx8 hx9 hx10 hx11 hx12
      clear htn
      have HC := Aside0.mk (fun w => cl113 (rd_T99 l0 (((i : Int) + (j : Int)) / 2)) s w)
      have HM1 : cmpB (rd_T99 l0 (((i : Int) + (j : Int)) / 2)).f0.f0 s < 0 → (i + j) / 2 < i0 := fun hc => by
        rcases Nat.lt_or_ge ((i + j) / 2) i0 with h | h
        · exact h
        · have h3 := H2.out _ h (by omega); rw [← hmi] at h3; omega
      have HM2 : ¬ cmpB (rd_T99 l0 (((i : Int) + (j : Int)) / 2)).f0.f0 s < 0 → i0 ≤ (i + j) / 2 := fun hc => by
        rcases Nat.lt_or_ge ((i + j) / 2) i0 with h | h
        · exact absurd (hmi ▸ H1.out _ h) hc
        · exact h
      obtain ⟨x, hx⟩ : ∃ x, x = rd_T99 l0 (((i : Int) + (j : Int)) / 2) := ⟨_, rfl⟩
      rw [← hx] at hx0 hx1 hx2 hx3 hx4 hx5 hx6 hx7 hx8 hx9 hx10 hx11 hx12 HC HM1 HM2
      clear hx
      obtain ⟨c, hc⟩ : ∃ c, c = cmpB x.f0.f0 s := ⟨_, rfl⟩
      rw [← hc] at HC HM1 HM2
      clear hc
      by_cases hcz : c < 0
      · have hmm := HM1 hcz
        clear HM1 HM2 hmi
        have hcb : decide (c < 0) = true := decide_eq_true hcz
        go_wp2_with (go_at_call 113; refine (HC.out _).mono ?_; rintro e w' ⟨rfl, hb'⟩)
        go_roundg (j - ((i + j) / 2 + 1))
        case measure => omega
        case rel => exact ⟨(i + j) / 2 + 1, j, by first | rfl | go_num | (simp; omega), rfl, by omega, by omega, by omega, by omega, ⟨below_then BW.out BW.out.size hb'⟩⟩
      · have hmm := HM2 hcz
        clear HM1 HM2 hmi
        have hcb : decide (c < 0) = false := decide_eq_false hcz
        go_wp2_with (go_at_call 113; refine (HC.out _).mono ?_; rintro e w' ⟨rfl, hb'⟩)
        go_roundg ((i + j) / 2 - i)
        case measure => omega
        case rel => exact ⟨i, (i + j) / 2, rfl, by first | rfl | (simp; omega), by omega, by omega, by omega, by omega, ⟨below_then BW.out BW.out.size hb'⟩⟩
    · have hltz : ¬ (i : Int) < (j : Int) := by omega
      obtain rfl : i = j := by omega
      obtain rfl : i = i0 := by omega
      by_cases hin : i < n
      · have hinz : (i : Int) < (n : Int) := by omega
        have p0 : (0 : Int) ≤ (i : Int) := by omega
        obtain ⟨ad, e1, hx0, hx1, hx2, hx3, hx4, hx5, hx6, hx7, hx8, hx9, hx10, hx11, hx12⟩ := at_T99 (Kd.C_below HR.out BW.out) _ p0 hinz
        cases e1
        simp only [Int.toNat_natCast] at hx0 hx1 hx2 hx3 hx4 hx5 hx6 hx7 hx8 hx9 hx10 hx11 hx12
        have HC := Aside0.mk (fun w => cl113 (rd_T99 l0 (i : Int)) s w)
        obtain ⟨x, hx⟩ : ∃ x, x = rd_T99 l0 (i : Int) := ⟨_, rfl⟩
        rw [← hx] at hx0 hx1 hx2 hx3 hx4 hx5 hx6 hx7 hx8 hx9 hx10 hx11 hx12 HC
        obtain ⟨c, hc⟩ : ∃ c, c = cmpB x.f0.f0 s := ⟨_, rfl⟩
        rw [← hc] at HC
        have HX := Aside0.mk (hx ▸ hc)
        clear hc H1 H2 hx
        have hd : decide (i < n) = true := decide_eq_true hin
        obtain ⟨b, hb⟩ : ∃ b, b = (c == 0) := ⟨_, rfl⟩
        have hb1 := hb.symm
        clear hb
        cases b
        all_goals
          go_wp2_with (go_at_call 113; refine (HC.out _).mono ?_; rintro e w' ⟨rfl, hb'⟩)
          go_ret2
          exact ⟨by rw [← HX.out, hb1]; simp [hd], below_then BW.out BW.out.size hb'⟩
      · have hinz : ¬ (i : Int) < (n : Int) := by omega
        have hd : decide (i < n) = false := decide_eq_false hin
        go_wp2
        go_ret2
        exact ⟨by simp [hd], BW.out⟩
set_option maxHeartbeats 1000000 in
theorem find87 (s : ByteArray) (A0 : Option Addr) (c0 : Nat) (l0 : List S99) (w : World) (hr0 : Kd.C k99 w A0 l0.length l0) (hn : l0.length ≤ 1000) (i0 : Nat) (h0 : i0 ≤ l0.length)
    (h1 : ∀ k : Nat, k < i0 → cmpB (rd_T99 l0 k).f0.f0 s < 0) (h2 : ∀ k : Nat, i0 ≤ k → k < l0.length → ¬ cmpB (rd_T99 l0 k).f0.f0 s < 0) :
    Calls Try.prog 87 #[.slice A0 l0.length c0, .string s] w fun e w' => e = .returned (.tuple #[.int .i64 (i0 : Nat), .bool (decide (i0 < l0.length) && cmpB (rd_T99 l0 i0).f0.f0 s == 0)]) ∧ Below w.heap.size w w' := by
  have H := Aside0.mk (bs112 s A0 c0 l0 w hr0 hn i0 h0 h1 h2)
  obtain ⟨b, hb⟩ : ∃ b, b = (decide (i0 < l0.length) && cmpB (rd_T99 l0 i0).f0.f0 s == 0) := ⟨_, rfl⟩
  rw [← hb] at H ⊢
  clear hr0 hn h0 h1 h2 hb
  obtain ⟨n, hn'⟩ : ∃ n, n = l0.length := ⟨_, rfl⟩
  rw [← hn'] at H ⊢
  clear hn'
  go_enter Try.func87, Try.ntmps87
  go_wp2_with (go_at_call 112; refine H.out.mono ?_; rintro e w' ⟨rfl, hb'⟩)
  go_ret2
  exact ⟨rfl, hb'⟩
/-- The place of a name in a sorted list: how many pieces come before it. -/
def posI : List S99 → ByteArray → Nat
  | [], _ => 0
  | x :: l, s => if cmpB x.f0.f0 s < 0 then posI l s + 1 else 0
def SortedI (l : List S99) : Prop := l.Pairwise fun x y => less x.f0.f0 y.f0.f0
theorem posI_le : ∀ (l : List S99) (s : ByteArray), posI l s ≤ l.length
  | [], _ => Nat.le_refl _
  | x :: l, s => by unfold posI; have := posI_le l s; split <;> simp <;> omega
theorem posI_lt : ∀ (l : List S99) (s : ByteArray) (k : Nat), k < posI l s → cmpB (rd_T99 l k).f0.f0 s < 0
  | [], _, _, h => by simp [posI] at h
  | x :: l, s, k, h => by
    unfold posI at h
    split at h
    · rename_i hx
      cases k with
      | zero => exact hx
      | succ k =>
        have := posI_lt l s k (by omega)
        unfold rd_T99 at this ⊢
        simpa using this
    · omega
theorem posI_ge : ∀ (l : List S99) (s : ByteArray), SortedI l → ∀ (k : Nat), posI l s ≤ k → k < l.length → ¬ cmpB (rd_T99 l k).f0.f0 s < 0
  | [], _, _, _, _, h => by simp at h
  | x :: l, s, hs, k, h, hl => by
    unfold posI at h
    obtain ⟨h1, h2⟩ := List.pairwise_cons.1 hs
    split at h
    · rename_i hx
      cases k with
      | zero => omega
      | succ k =>
        have := posI_ge l s h2 k (by omega) (by simpa using hl)
        unfold rd_T99 at this ⊢
        simpa using this
    · rename_i hx
      cases k with
      | zero => exact hx
      | succ k =>
        intro hc
        have hk : k < l.length := by simpa using hl
        have e : rd_T99 (x :: l) ((k + 1 : Nat) : Int) = l[k] := by
          unfold rd_T99; simp [List.getD_eq_getElem?_getD, hk]
        rw [e] at hc
        exact hx ((cmpB_lt _ _).2 (lessTrans (h1 _ (List.getElem_mem hk)) ((cmpB_lt _ _).1 hc)))
end Go.Proofs.Ytndbchcfjajgbaa.XP
