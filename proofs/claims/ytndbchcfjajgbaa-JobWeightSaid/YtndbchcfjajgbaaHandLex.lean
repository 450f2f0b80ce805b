/- lexer.word, walked: the length of the word at the beginning of a string. -/
import Derived.Test.YtndbchcfjajgbaaXB
import Derived.Test.YtndbchcfjajgbaaXP0
import Derived.Test.YtndbchcfjajgbaaXH
import Derived.Lib.Hide
namespace Go.Proofs.Ytndbchcfjajgbaa.XP
open Go.Proofs.Ytndbchcfjajgbaa.XB Go.Proofs.Ytndbchcfjajgbaa.XQ
open Go.RowKit Go.Proofs Go.Proofs.YtndbchcfjajgbaaW.PrintWords Go.Proofs.YtndbchcfjajgbaaW.PrintLast Go.Proofs.Ytndbchcfjajgbaa.XH
set_option linter.unusedVariables false
set_option linter.unusedSimpArgs false
/-- Bytes of words. -/
def isL (c : Int) : Bool := (decide (97 ≤ c) && decide (c ≤ 122)) || (decide (65 ≤ c) && decide (c ≤ 90))
def isD (c : Int) : Bool := decide (48 ≤ c) && decide (c ≤ 57)
def isW (c : Int) : Bool := isL c || isD c || c == 45 || c == 95
set_option maxHeartbeats 2000000 in
theorem letter133 (c : Int) (w : World) : Calls Try.prog 133 #[.int .u8 c] w fun e w' => e = .returned (.bool (isL c)) ∧ Drawn0 w w' := by
  unfold isL
  by_cases h1 : 97 ≤ c
  all_goals by_cases h2 : c ≤ 122
  all_goals by_cases h3 : 65 ≤ c
  all_goals by_cases h4 : c ≤ 90
  all_goals first | omega | skip
  all_goals
    go_enter Try.func133, Try.ntmps133
    go_wp2
    repeat (go_quiet (fail)); try go_wp2
    go_ret
    exact ⟨by simp [h1, h2, h3, h4], by first | exact Drawn0.refl _ | exact Drawn0.step (Drawn0.refl _) _⟩
set_option maxHeartbeats 2000000 in
theorem digit136 (c : Int) (w : World) : Calls Try.prog 136 #[.int .u8 c] w fun e w' => e = .returned (.bool (isD c)) ∧ Drawn0 w w' := by
  unfold isD
  by_cases h1 : 48 ≤ c
  all_goals by_cases h2 : c ≤ 57
  all_goals first | omega | skip
  all_goals
    go_enter Try.func136, Try.ntmps136
    go_wp2
    repeat (go_quiet (fail)); try go_wp2
    go_ret
    exact ⟨by simp [h1, h2], by first | exact Drawn0.refl _ | exact Drawn0.step (Drawn0.refl _) _⟩
set_option maxHeartbeats 4000000 in
theorem char135 (c : Int) (w : World) : Calls Try.prog 135 #[.int .u8 c] w fun e w' => e = .returned (.bool (isW c)) ∧ Drawn0 w w' := by
  unfold isW
  obtain ⟨a, ha⟩ : ∃ a, a = isL c := ⟨_, rfl⟩
  obtain ⟨b, hb⟩ : ∃ b, b = isD c := ⟨_, rfl⟩
  have L := fun w => Aside0.mk (ha ▸ letter133 c w)
  have D := fun w => Aside0.mk (hb ▸ digit136 c w)
  rw [← ha, ← hb]
  clear ha hb
  cases a
  · cases b
    · by_cases h1 : c = 45
      · subst h1
        go_enter Try.func135, Try.ntmps135
        go_wp2_with (first | (go_at_call 133; refine (L _).out.mono ?_; rintro e w' ⟨rfl, ⟨nd, rfl⟩⟩) | (go_at_call 136; refine (D _).out.mono ?_; rintro e w' ⟨rfl, ⟨nd, rfl⟩⟩))
        go_ret
        exact ⟨by simp, t_51⟩
      · have h1b : (c == 45) = false := by simpa using h1
        go_enter Try.func135, Try.ntmps135
        go_wp2_with (first | (go_at_call 133; refine (L _).out.mono ?_; rintro e w' ⟨rfl, ⟨nd, rfl⟩⟩) | (go_at_call 136; refine (D _).out.mono ?_; rintro e w' ⟨rfl, ⟨nd, rfl⟩⟩))
        go_ret
        exact ⟨by simp [h1b], t_51⟩
    · go_enter Try.func135, Try.ntmps135
      go_wp2_with (first | (go_at_call 133; refine (L _).out.mono ?_; rintro e w' ⟨rfl, ⟨nd, rfl⟩⟩) | (go_at_call 136; refine (D _).out.mono ?_; rintro e w' ⟨rfl, ⟨nd, rfl⟩⟩))
      go_ret
      exact ⟨by simp, t_51⟩
  · go_enter Try.func135, Try.ntmps135
    go_wp2_with (first | (go_at_call 133; refine (L _).out.mono ?_; rintro e w' ⟨rfl, ⟨nd, rfl⟩⟩))
    go_ret
    exact ⟨by simp, t_51⟩
/-- How many bytes of a word stand from a place on. -/
def runF (s : ByteArray) : Nat → Int → Int
  | 0, x => x
  | n + 1, x => if x < (s.size : Int) then (if isW (bt s x) = true then runF s n (x + 1) else x) else x
set_option maxHeartbeats 4000000 in
theorem run134 (s : ByteArray) (hs : s.size ≤ 30) (w : World) : Calls Try.prog 134 #[.string s, .func (.func 135) #[] #[]] w fun e w' => e = .returned (.int .i64 (runF s s.size 0)) ∧ Drawn0 w w' := by
  obtain ⟨r, hr⟩ : ∃ r, r = runF s s.size 0 := ⟨_, rfl⟩
  have hr0 := Aside0.mk hr
  rw [← hr]
  clear hr
  go_enter Try.func134, Try.ntmps134
  go_wp2
  go_loopg [5] s.size (fun gg v5 wr => ∃ kk : Nat, v5 = .int .i64 kk ∧ kk ≤ s.size ∧ s.size - kk ≤ gg ∧ Aside0 (r = runF s (s.size - kk) kk) ∧ Drawn0 w wr)
  case atStart => exact ⟨0, rfl, by omega, by omega, ⟨by simpa using hr0.out⟩, t_51⟩
  case round =>
    clear hr0
    obtain ⟨kk, rfl, hk1, hgk, HA, ⟨m1, rfl⟩⟩ := hrel
    by_cases hlt : kk < s.size
    · have c1 : ((kk : Int) < (s.size : Int)) := by omega
      obtain ⟨m, hm⟩ : ∃ m, s.size - kk = m + 1 := ⟨s.size - kk - 1, by omega⟩
      have p0 : (0 : Int) ≤ (kk : Int) := by omega
      have hx4 := bt_at s (kk : Int)
      simp only [Int.toNat_natCast] at hx4
      have HB := HA.out
      rw [hm] at HB
      simp only [runF] at HB
      rw [if_pos c1] at HB
      clear HA
      have HC := fun w => Aside0.mk (char135 (bt s kk) w)
      obtain ⟨b, hb⟩ : ∃ b, b = isW (bt s (kk : Int)) := ⟨_, rfl⟩
      rw [← hb] at HB
      have HC := fun w => Aside0.mk (hb ▸ (HC w).out)
      clear hb
      cases b
      · rw [if_neg (by decide)] at HB
        subst HB
        go_wp2_with (first | (go_at_call 135; refine (HC _).out.mono ?_; rintro e w' ⟨rfl, ⟨nd, rfl⟩⟩))
        go_ret
        exact ⟨rfl, t_51⟩
      · rw [if_pos rfl] at HB
        have HB := Aside0.mk HB
        go_wp2_with (first | (go_at_call 135; refine (HC _).out.mono ?_; rintro e w' ⟨rfl, ⟨nd, rfl⟩⟩))
        go_roundg (s.size - (kk + 1))
        case measure => omega
        case rel => exact ⟨kk + 1, by go_num, by omega, by omega, ⟨by rw [HB.out, show s.size - (kk + 1) = m by omega]; rfl⟩, t_51⟩
    · have c1 : ¬ ((kk : Int) < (s.size : Int)) := by omega
      obtain rfl : r = (kk : Int) := by rw [HA.out, show s.size - kk = 0 by omega]; rfl
      go_wp2
      go_ret
      exact ⟨rfl, t_51⟩
def lexer_word.f (a0 : ByteArray) : Option (Int) := if a0.size ≤ 30 then some (if a0.toList = ([] : List UInt8) then 0 else (if isL (bt a0 0) = true then runF a0 a0.size 0 else 0)) else none
set_option maxHeartbeats 4000000 in
set_option maxRecDepth 100000 in
theorem lexer_word.calls (a0 : ByteArray) (r : Int) (w : World) (h : lexer_word.f a0 = some r) :
    Calls Try.prog 119 #[.string a0] w fun e w' => e = .returned (.int .i64 r) ∧ Drawn0 w w' := by
  unfold lexer_word.f at h
  by_cases hs : a0.size ≤ 30
  · rw [if_pos hs, Option.some.injEq] at h
    subst h
    by_cases c2 : a0.toList = ([] : List UInt8)
    · rw [if_pos c2]
      have c2b0 : (a0.toList == ([] : List UInt8)) = true := beq_iff_eq.mpr c2
      clear c2
      go_enter Try.func119, Try.ntmps119
      go_wp2
      go_ret
      exact ⟨rfl, t_51⟩
    · rw [if_neg c2]
      have c2b0 : (a0.toList == ([] : List UInt8)) = false := beq_eq_false_iff_ne.mpr c2
      have q4 : 0 < a0.size := by
        rcases Nat.eq_zero_or_pos a0.size with h0 | h0
        · exact absurd (by rw [show a0 = ByteArray.empty by simpa using h0]; first | rfl | decide | simp) c2
        · exact h0
      have hx4 : ∀ h : 0 < a0.size, ((a0[0]'h).toNat : Int) = bt a0 0 := bt_at a0 0
      have q5 : (0 : Int) < (a0.size : Int) := by omega
      replace q4 := eq_true q4
      replace q5 := eq_true q5
      clear c2
      obtain ⟨b, hb⟩ : ∃ b, b = isL (bt a0 0) := ⟨_, rfl⟩
      have HL := fun w => Aside0.mk (hb ▸ letter133 (bt a0 0) w)
      rw [← hb]
      clear hb
      have HR := fun w => Aside0.mk (run134 a0 hs w)
      obtain ⟨r, hr⟩ : ∃ r, r = runF a0 a0.size 0 := ⟨_, rfl⟩
      rw [← hr]
      have HR := fun w => Aside0.mk (hr ▸ (HR w).out)
      clear hr
      cases b
      · rw [if_neg (by decide)]
        go_enter Try.func119, Try.ntmps119
        go_wp2_with (first | (go_at_call 133; refine (HL _).out.mono ?_; rintro e w' ⟨rfl, ⟨nd, rfl⟩⟩))
        go_ret
        exact ⟨rfl, t_51⟩
      · rw [if_pos rfl]
        go_enter Try.func119, Try.ntmps119
        go_wp2_with (first | (go_at_call 133; refine (HL _).out.mono ?_; rintro e w' ⟨rfl, ⟨nd, rfl⟩⟩) | (go_at_call 134; refine (HR _).out.mono ?_; rintro e w' ⟨rfl, ⟨nd, rfl⟩⟩))
        go_ret
        exact ⟨rfl, t_51⟩
  · rw [if_neg hs] at h
    simp at h
end Go.Proofs.Ytndbchcfjajgbaa.XP
