/- parcel.find, walked: the binary search among pieces that are sorted by identifiers. -/
import Derived.Test.YtndbchcfjajgbaaXB
import Derived.Test.YtndbchcfjajgbaaXP0
import Derived.Test.YtndbchcfjajgbaaXH
import Derived.Lib.Bytealg
namespace Go.Proofs.Ytndbchcfjajgbaa.XP
open Go.Proofs.Ytndbchcfjajgbaa.XB Go.Proofs.Ytndbchcfjajgbaa.XQ
open Go.RowKit Go.Proofs Go.Proofs.YtndbchcfjajgbaaW.PrintWords Go.Proofs.YtndbchcfjajgbaaW.PrintLast Go.Proofs.Ytndbchcfjajgbaa.XH
set_option linter.unusedVariables false
set_option linter.unusedSimpArgs false
def cmpB (a b : ByteArray) : Int := Lib.compareBytes a.data.toList b.data.toList
set_option maxHeartbeats 1000000 in
set_option maxRecDepth 100000 in
theorem cmp123 (a b : ByteArray) (w : World) : Calls Try.prog 123 #[.string a, .string b] w fun e w' => e = .returned (.int .i64 (cmpB a b)) ∧ w' = w := by
  go_enter Try.func123, Try.ntmps123
  go_wp2
  rw [run_callFunc_extern Try.func138 t_8e t_8e t_8e (e := Extern.BytealgCompare.compare) t_8e, Lib.run_compareString]
  simp only [Result.andThen]
  rw [Oper.upon_value]
  go_wp2
  go_ret
  exact ⟨rfl, rfl⟩
set_option maxHeartbeats 1000000 in
theorem cmp104 (a b : ByteArray) (w : World) : Calls Try.prog 104 #[.string a, .string b] w fun e w' => e = .returned (.int .i64 (cmpB a b)) ∧ w' = w := by
  have H := Aside0.mk (fun w => cmp123 a b w)
  obtain ⟨c, hc⟩ : ∃ c, c = cmpB a b := ⟨_, rfl⟩
  rw [← hc] at H ⊢
  clear hc
  go_enter Try.func104, Try.ntmps104
  go_wp2_with (go_at_call 123; refine (H.out _).mono ?_; rintro e w' ⟨rfl, rfl⟩)
  go_ret
  exact ⟨rfl, rfl⟩
set_option maxHeartbeats 4000000 in
theorem cl103 (x : S24) (s : ByteArray) (w : World) : Calls Try.prog 103 #[.agg #[.string x.f0, .string x.f1, .int .i64 x.f2, .int .i64 x.f3], .string s] w fun e w' => e = .returned (.int .i64 (cmpB x.f0 s)) ∧ Below w.heap.size w w' := by
  have H := Aside0.mk (fun w => cmp104 x.f0 s w)
  obtain ⟨c, hc⟩ : ∃ c, c = cmpB x.f0 s := ⟨_, rfl⟩
  rw [← hc] at H ⊢
  clear hc
  go_enter Try.func103, Try.ntmps103
  go_wp2_with (first | ((with_reducible refine gate_dst (N := 2) rfl ?_); refine bx_ (N := 2) (cs := #[.string x.f0, .string x.f1, .int .i64 x.f2, .int .i64 x.f3]) (t := 24) ?_; intro gb hgb w1 hbox hb1; have BW0 := Aside0.mk hb1; have k0 := (blk_cell hbox 0).trans rfl; clear hgb hbox hb1) | (go_at_call 104; refine (H.out _).mono ?_; rintro e w' ⟨rfl, rfl⟩))
  go_ret
  exact ⟨rfl, BW0.out⟩
set_option maxHeartbeats 4000000 in
set_option maxRecDepth 100000 in
theorem bs102 (s : ByteArray) (A0 : Option Addr) (c0 : Nat) (l0 : List S24) (w : World) (hr0 : Kd.C k24 w A0 l0.length l0) (hn : l0.length ≤ 1000) (i0 : Nat) (h0 : i0 ≤ l0.length)
    (h1 : ∀ k : Nat, k < i0 → cmpB (rd_T24 l0 k).f0 s < 0) (h2 : ∀ k : Nat, i0 ≤ k → k < l0.length → ¬ cmpB (rd_T24 l0 k).f0 s < 0) :
    Calls Try.prog 102 #[.slice A0 l0.length c0, .string s, .func (.func 103) #[] #[]] w fun e w' => e = .returned (.tuple #[.int .i64 (i0 : Nat), .bool (decide (i0 < l0.length) && cmpB (rd_T24 l0 i0).f0 s == 0)]) ∧ Below w.heap.size w w' := by
  have HR0 := Aside0.mk hr0
  have H1 := Aside0.mk h1
  have H2 := Aside0.mk h2
  obtain ⟨n, hn'⟩ : ∃ n, n = l0.length := ⟨_, rfl⟩
  have HR := hr0
  rw [← hn'] at hn h0 H2 HR ⊢
  have HR := Aside0.mk HR
  clear hr0 h1 h2 HR0 hn'
  go_enter Try.func102, Try.ntmps102
  go_wp2
  go_loopg [9, 10, 11] n (fun gg v9 v10 _ wr => ∃ i j : Nat, v9 = .int .i64 i ∧ v10 = .int .i64 j ∧ i ≤ i0 ∧ i0 ≤ j ∧ j ≤ n ∧ j - i ≤ gg ∧ Aside0 (Below w.heap.size w wr))
  case atStart => exact ⟨0, n, rfl, rfl, Nat.zero_le _, h0, Nat.le_refl _, by omega, ⟨Below.refl _ w⟩⟩
  case round =>
    obtain ⟨i, j, rfl, rfl, hi, hj, hjn, hgg, BW⟩ := hrel
    by_cases hlt : i < j
    · have hltz : (i : Int) < (j : Int) := by omega
      have hmi : ((i : Int) + (j : Int)) / 2 = (((i + j) / 2 : Nat) : Int) := by omega
      have p0 : 0 ≤ ((i : Int) + (j : Int)) / 2 := by omega
      have q0 : ((i : Int) + (j : Int)) / 2 < (n : Int) := by omega
      obtain ⟨ad, e1, hx0, hx1, hx2, hx3⟩ := at_T24 (Kd.C_below HR.out BW.out) _ p0 q0
      cases e1
      have htn : (((i : Int) + (j : Int)) / 2).toNat = (i + j) / 2 := by omega
      rw [htn] at hx0 hx1 hx2 hx3
      clear htn
      have HC := Aside0.mk (fun w => cl103 (rd_T24 l0 (((i : Int) + (j : Int)) / 2)) s w)
      have HM1 : cmpB (rd_T24 l0 (((i : Int) + (j : Int)) / 2)).f0 s < 0 → (i + j) / 2 < i0 := fun hc => by
        rcases Nat.lt_or_ge ((i + j) / 2) i0 with h | h
        · exact h
        · have h3 := H2.out _ h (by omega); rw [← hmi] at h3; omega
      have HM2 : ¬ cmpB (rd_T24 l0 (((i : Int) + (j : Int)) / 2)).f0 s < 0 → i0 ≤ (i + j) / 2 := fun hc => by
        rcases Nat.lt_or_ge ((i + j) / 2) i0 with h | h
        · exact absurd (hmi ▸ H1.out _ h) hc
        · exact h
      obtain ⟨x, hx⟩ : ∃ x, x = rd_T24 l0 (((i : Int) + (j : Int)) / 2) := ⟨_, rfl⟩
      rw [← hx] at hx0 hx1 hx2 hx3 HC HM1 HM2
      clear hx
      obtain ⟨c, hc⟩ : ∃ c, c = cmpB x.f0 s := ⟨_, rfl⟩
      rw [← hc] at HC HM1 HM2
      clear hc
      by_cases hcz : c < 0
      · have hmm := HM1 hcz
        clear HM1 HM2 hmi
        have hcb : decide (c < 0) = true := decide_eq_true hcz
        go_wp2_with (go_at_call 103; refine (HC.out _).mono ?_; rintro e w' ⟨rfl, hb'⟩)
        go_roundg (j - ((i + j) / 2 + 1))
        case measure => omega
        case rel => exact ⟨(i + j) / 2 + 1, j, by first | rfl | go_num | (simp; omega), rfl, by omega, by omega, by omega, by omega, ⟨below_then BW.out BW.out.size hb'⟩⟩
      · have hmm := HM2 hcz
        clear HM1 HM2 hmi
        have hcb : decide (c < 0) = false := decide_eq_false hcz
        go_wp2_with (go_at_call 103; refine (HC.out _).mono ?_; rintro e w' ⟨rfl, hb'⟩)
        go_roundg ((i + j) / 2 - i)
        case measure => omega
        case rel => exact ⟨i, (i + j) / 2, rfl, by first | rfl | (simp; omega), by omega, by omega, by omega, by omega, ⟨below_then BW.out BW.out.size hb'⟩⟩
    · have hltz : ¬ (i : Int) < (j : Int) := by omega
      obtain rfl : i = j := by omega
      obtain rfl : i = i0 := by omega
      by_cases hin : i < n
      · have hinz : (i : Int) < (n : Int) := by omega
        have p0 : (0 : Int) ≤ (i : Int) := by omega
        obtain ⟨ad, e1, hx0, hx1, hx2, hx3⟩ := at_T24 (Kd.C_below HR.out BW.out) _ p0 hinz
        cases e1
        simp only [Int.toNat_natCast] at hx0 hx1 hx2 hx3
        have HC := Aside0.mk (fun w => cl103 (rd_T24 l0 (i : Int)) s w)
        obtain ⟨x, hx⟩ : ∃ x, x = rd_T24 l0 (i : Int) := ⟨_, rfl⟩
        rw [← hx] at hx0 hx1 hx2 hx3 HC
        obtain ⟨c, hc⟩ : ∃ c, c = cmpB x.f0 s := ⟨_, rfl⟩
        rw [← hc] at HC
        have HX := Aside0.mk (hx ▸ hc)
        clear hc H1 H2 hx
        have hd : decide (i < n) = true := decide_eq_true hin
        obtain ⟨b, hb⟩ : ∃ b, b = (c == 0) := ⟨_, rfl⟩
        have hb1 := hb.symm
        clear hb
        cases b
        all_goals
          go_wp2_with (go_at_call 103; refine (HC.out _).mono ?_; rintro e w' ⟨rfl, hb'⟩)
          go_ret2
          exact ⟨by rw [← HX.out, hb1]; simp [hd], below_then BW.out BW.out.size hb'⟩
      · have hinz : ¬ (i : Int) < (n : Int) := by omega
        have hd : decide (i < n) = false := decide_eq_false hin
        go_wp2
        go_ret2
        exact ⟨by simp [hd], BW.out⟩
set_option maxHeartbeats 1000000 in
theorem find63 (s : ByteArray) (A0 : Option Addr) (c0 : Nat) (l0 : List S24) (w : World) (hr0 : Kd.C k24 w A0 l0.length l0) (hn : l0.length ≤ 1000) (i0 : Nat) (h0 : i0 ≤ l0.length)
    (h1 : ∀ k : Nat, k < i0 → cmpB (rd_T24 l0 k).f0 s < 0) (h2 : ∀ k : Nat, i0 ≤ k → k < l0.length → ¬ cmpB (rd_T24 l0 k).f0 s < 0) :
    Calls Try.prog 63 #[.slice A0 l0.length c0, .string s] w fun e w' => e = .returned (.tuple #[.int .i64 (i0 : Nat), .bool (decide (i0 < l0.length) && cmpB (rd_T24 l0 i0).f0 s == 0)]) ∧ Below w.heap.size w w' := by
  have H := Aside0.mk (bs102 s A0 c0 l0 w hr0 hn i0 h0 h1 h2)
  obtain ⟨b, hb⟩ : ∃ b, b = (decide (i0 < l0.length) && cmpB (rd_T24 l0 i0).f0 s == 0) := ⟨_, rfl⟩
  rw [← hb] at H ⊢
  clear hr0 hn h0 h1 h2 hb
  obtain ⟨n, hn'⟩ : ∃ n, n = l0.length := ⟨_, rfl⟩
  rw [← hn'] at H ⊢
  clear hn'
  go_enter Try.func63, Try.ntmps63
  go_wp2_with (go_at_call 102; refine H.out.mono ?_; rintro e w' ⟨rfl, hb'⟩)
  go_ret2
  exact ⟨rfl, hb'⟩
end Go.Proofs.Ytndbchcfjajgbaa.XP
