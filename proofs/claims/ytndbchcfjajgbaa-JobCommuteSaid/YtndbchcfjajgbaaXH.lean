/- Two texts, laid into one by mkclaim.py. -/
import Derived.Test.YtndbchcfjajgbaaXW
import Derived.Test.YtndbchcfjajgbaaWAll
import Derived.Shelf.SlicesQ.Load
import Derived.Test.YtndbchcfjajgbaaXB
import Derived.Test.YtndbchcfjajgbaaXP0
import Derived.Lib.Hide
section
/-! Words of this session: function values handed to the library's generic functions. -/
namespace Go.Proofs.Ytndbchcfjajgbaa.XH
open Go.RowKit Go.Proofs Go.Proofs.YtndbchcfjajgbaaW.PrintWords Go.Proofs.YtndbchcfjajgbaaW.PrintLast
set_option linter.unusedVariables false
/-- What is asked of a predicate on values of a kind; mk: how its cells are handed over. -/
def PredK {α : Type} (P : Program) (g : Nat) (lb : Array Value) (d : Kd α) (mk : List Value → Value) (p : α → Bool) (w : World) : Prop :=
  ∀ (W : World) (x : α) (cs : List Value), Below w.heap.size w W → d.K W x cs → Calls P g (#[mk cs] ++ lb) W fun e w' => e = .returned (.bool (p x)) ∧ Below W.heap.size W w'
def agg (cs : List Value) : Value := .agg cs.toArray
/-- The first place of which p holds; -1. -/
def idx {α : Type} (p : α → Bool) : List α → Int → Int
  | [], _ => -1
  | x :: l, i => if p x then i else idx p l (i + 1)
theorem idx_hit {α : Type} (p : α → Bool) (z : α) : ∀ (l : List α) (k : Nat) (i : Int), k < l.length → (∀ j, j < k → p (l.getD j z) = false) → p (l.getD k z) = true → idx p l i = i + k
  | [], k, i, h, _, _ => by simp at h
  | x :: l, 0, i, h, _, hp => by simp [idx] at hp ⊢; simp [hp]
  | x :: l, k + 1, i, h, hn, hp => by
    have h0 := hn 0 (by omega)
    simp at h0
    have := idx_hit p z l k (i + 1) (by simpa using h) (fun j hj => by have := hn (j + 1) (by omega); simpa using this) (by simpa using hp)
    simp only [idx, h0]
    simp only [Bool.false_eq_true, if_false]
    rw [this]; omega
theorem idx_miss {α : Type} (p : α → Bool) (z : α) : ∀ (l : List α) (i : Int), (∀ j, j < l.length → p (l.getD j z) = false) → idx p l i = -1
  | [], _, _ => rfl
  | x :: l, i, hn => by
    have h0 := hn 0 (by simp)
    simp at h0
    have := idx_miss p z l (i + 1) (fun j hj => by have := hn (j + 1) (by simpa using hj); simpa using this)
    simp only [idx, h0]
    simpa using this
theorem idx_any {α : Type} (p : α → Bool) : ∀ (l : List α) (i : Int), 0 ≤ i → decide (0 ≤ idx p l i) = l.any p
  | [], i, h => by simp [idx]
  | x :: l, i, h => by
    simp only [idx, List.any_cons]
    split
    · rename_i c; simp [c, h]
    · rename_i c; rw [idx_any p l (i + 1) (by omega)]; simp [c]
end Go.Proofs.Ytndbchcfjajgbaa.XH
end
section
/- lexer.word, walked: the length of the word at the beginning of a string. -/
namespace Go.Proofs.Ytndbchcfjajgbaa.XP
open Go.Proofs.Ytndbchcfjajgbaa.XB Go.Proofs.Ytndbchcfjajgbaa.XQ
open Go.RowKit Go.Proofs Go.Proofs.YtndbchcfjajgbaaW.PrintWords Go.Proofs.YtndbchcfjajgbaaW.PrintLast Go.Proofs.Ytndbchcfjajgbaa.XH
set_option linter.unusedVariables false
set_option linter.unusedSimpArgs false
/-- Bytes of words. -/
def isL (c : Int) : Bool := (decide (97 ≤ c) && decide (c ≤ 122)) || (decide (65 ≤ c) && decide (c ≤ 90))
def isD (c : Int) : Bool := decide (48 ≤ c) && decide (c ≤ 57)
def isW (c : Int) : Bool := isL c || isD c || c == 45 || c == 95
set_option maxHeartbeats 2000000 in
theorem letter133 (c : Int) (w : World) : Calls Try.prog 133 #[.int .u8 c] w fun e w' => e = .returned (.bool (isL c)) ∧ Drawn0 w w' := by
  unfold isL
  by_cases h1 : 97 ≤ c
  all_goals by_cases h2 : c ≤ 122
  all_goals by_cases h3 : 65 ≤ c
  all_goals by_cases h4 : c ≤ 90
  all_goals first | omega | skip
  all_goals
    go_enter Try.func133, Try.ntmps133
    go_wp2
    repeat (go_quiet (fail)); try go_wp2
    go_ret
    exact ⟨by simp [h1, h2, h3, h4], by first | exact Drawn0.refl _ | exact Drawn0.step (Drawn0.refl _) _⟩
set_option maxHeartbeats 2000000 in
theorem digit136 (c : Int) (w : World) : Calls Try.prog 136 #[.int .u8 c] w fun e w' => e = .returned (.bool (isD c)) ∧ Drawn0 w w' := by
  unfold isD
  by_cases h1 : 48 ≤ c
  all_goals by_cases h2 : c ≤ 57
  all_goals first | omega | skip
  all_goals
    go_enter Try.func136, Try.ntmps136
    go_wp2
    repeat (go_quiet (fail)); try go_wp2
    go_ret
    exact ⟨by simp [h1, h2], by first | exact Drawn0.refl _ | exact Drawn0.step (Drawn0.refl _) _⟩
set_option maxHeartbeats 4000000 in
theorem char135 (c : Int) (w : World) : Calls Try.prog 135 #[.int .u8 c] w fun e w' => e = .returned (.bool (isW c)) ∧ Drawn0 w w' := by
  unfold isW
  obtain ⟨a, ha⟩ : ∃ a, a = isL c := ⟨_, rfl⟩
  obtain ⟨b, hb⟩ : ∃ b, b = isD c := ⟨_, rfl⟩
  have L := fun w => Aside0.mk (ha ▸ letter133 c w)
  have D := fun w => Aside0.mk (hb ▸ digit136 c w)
  rw [← ha, ← hb]
  clear ha hb
  cases a
  · cases b
    · by_cases h1 : c = 45
      · subst h1
        go_enter Try.func135, Try.ntmps135
        go_wp2_with (first | (go_at_call 133; refine (L _).out.mono ?_; rintro e w' ⟨rfl, ⟨nd, rfl⟩⟩) | (go_at_call 136; refine (D _).out.mono ?_; rintro e w' ⟨rfl, ⟨nd, rfl⟩⟩))
        go_ret
        exact ⟨by simp, t_72⟩
      · have h1b : (c == 45) = false := by simpa using h1
        go_enter Try.func135, Try.ntmps135
        go_wp2_with (first | (go_at_call 133; refine (L _).out.mono ?_; rintro e w' ⟨rfl, ⟨nd, rfl⟩⟩) | (go_at_call 136; refine (D _).out.mono ?_; rintro e w' ⟨rfl, ⟨nd, rfl⟩⟩))
        go_ret
        exact ⟨by simp [h1b], t_72⟩
    · go_enter Try.func135, Try.ntmps135
      go_wp2_with (first | (go_at_call 133; refine (L _).out.mono ?_; rintro e w' ⟨rfl, ⟨nd, rfl⟩⟩) | (go_at_call 136; refine (D _).out.mono ?_; rintro e w' ⟨rfl, ⟨nd, rfl⟩⟩))
      go_ret
      exact ⟨by simp, t_72⟩
  · go_enter Try.func135, Try.ntmps135
    go_wp2_with (first | (go_at_call 133; refine (L _).out.mono ?_; rintro e w' ⟨rfl, ⟨nd, rfl⟩⟩))
    go_ret
    exact ⟨by simp, t_72⟩
/-- How many bytes of a word stand from a place on. -/
def runF (s : ByteArray) : Nat → Int → Int
  | 0, x => x
  | n + 1, x => if x < (s.size : Int) then (if isW (bt s x) = true then runF s n (x + 1) else x) else x
set_option maxHeartbeats 4000000 in
theorem run134 (s : ByteArray) (hs : s.size ≤ 30) (w : World) : Calls Try.prog 134 #[.string s, .func (.func 135) #[] #[]] w fun e w' => e = .returned (.int .i64 (runF s s.size 0)) ∧ Drawn0 w w' := by
  obtain ⟨r, hr⟩ : ∃ r, r = runF s s.size 0 := ⟨_, rfl⟩
  have hr0 := Aside0.mk hr
  rw [← hr]
  clear hr
  go_enter Try.func134, Try.ntmps134
  go_wp2
  go_loopg [5] s.size (fun gg v5 wr => ∃ kk : Nat, v5 = .int .i64 kk ∧ kk ≤ s.size ∧ s.size - kk ≤ gg ∧ Aside0 (r = runF s (s.size - kk) kk) ∧ Drawn0 w wr)
  case atStart => exact ⟨0, rfl, by omega, by omega, ⟨by simpa using hr0.out⟩, t_72⟩
  case round =>
    clear hr0
    obtain ⟨kk, rfl, hk1, hgk, HA, ⟨m1, rfl⟩⟩ := hrel
    by_cases hlt : kk < s.size
    · have c1 : ((kk : Int) < (s.size : Int)) := by omega
      obtain ⟨m, hm⟩ : ∃ m, s.size - kk = m + 1 := ⟨s.size - kk - 1, by omega⟩
      have p0 : (0 : Int) ≤ (kk : Int) := by omega
      have hx4 := bt_at s (kk : Int)
      simp only [Int.toNat_natCast] at hx4
      have HB := HA.out
      rw [hm] at HB
      simp only [runF] at HB
      rw [if_pos c1] at HB
      clear HA
      have HC := fun w => Aside0.mk (char135 (bt s kk) w)
      obtain ⟨b, hb⟩ : ∃ b, b = isW (bt s (kk : Int)) := ⟨_, rfl⟩
      rw [← hb] at HB
      have HC := fun w => Aside0.mk (hb ▸ (HC w).out)
      clear hb
      cases b
      · rw [if_neg (by decide)] at HB
        subst HB
        go_wp2_with (first | (go_at_call 135; refine (HC _).out.mono ?_; rintro e w' ⟨rfl, ⟨nd, rfl⟩⟩))
        go_ret
        exact ⟨rfl, t_72⟩
      · rw [if_pos rfl] at HB
        have HB := Aside0.mk HB
        go_wp2_with (first | (go_at_call 135; refine (HC _).out.mono ?_; rintro e w' ⟨rfl, ⟨nd, rfl⟩⟩))
        go_roundg (s.size - (kk + 1))
        case measure => omega
        case rel => exact ⟨kk + 1, by go_num, by omega, by omega, ⟨by rw [HB.out, show s.size - (kk + 1) = m by omega]; rfl⟩, t_72⟩
    · have c1 : ¬ ((kk : Int) < (s.size : Int)) := by omega
      obtain rfl : r = (kk : Int) := by rw [HA.out, show s.size - kk = 0 by omega]; rfl
      go_wp2
      go_ret
      exact ⟨rfl, t_72⟩
def lexer_word.f (a0 : ByteArray) : Option (Int) := if a0.size ≤ 30 then some (if a0.toList = ([] : List UInt8) then 0 else (if isL (bt a0 0) = true then runF a0 a0.size 0 else 0)) else none
set_option maxHeartbeats 4000000 in
set_option maxRecDepth 100000 in
theorem lexer_word.calls (a0 : ByteArray) (r : Int) (w : World) (h : lexer_word.f a0 = some r) :
    Calls Try.prog 119 #[.string a0] w fun e w' => e = .returned (.int .i64 r) ∧ Drawn0 w w' := by
  unfold lexer_word.f at h
  by_cases hs : a0.size ≤ 30
  · rw [if_pos hs, Option.some.injEq] at h
    subst h
    by_cases c2 : a0.toList = ([] : List UInt8)
    · rw [if_pos c2]
      have c2b0 : (a0.toList == ([] : List UInt8)) = true := beq_iff_eq.mpr c2
      clear c2
      go_enter Try.func119, Try.ntmps119
      go_wp2
      go_ret
      exact ⟨rfl, t_72⟩
    · rw [if_neg c2]
      have c2b0 : (a0.toList == ([] : List UInt8)) = false := beq_eq_false_iff_ne.mpr c2
      have q4 : 0 < a0.size := by
        rcases Nat.eq_zero_or_pos a0.size with h0 | h0
        · exact absurd (by rw [show a0 = ByteArray.empty by simpa using h0]; first | rfl | decide | simp) c2
        · exact h0
      have hx4 : ∀ h : 0 < a0.size, ((a0[0]'h).toNat : Int) = bt a0 0 := bt_at a0 0
      have q5 : (0 : Int) < (a0.size : Int) := by omega
      replace q4 := eq_true q4
      replace q5 := eq_true q5
      clear c2
      obtain ⟨b, hb⟩ : ∃ b, b = isL (bt a0 0) := ⟨_, rfl⟩
      have HL := fun w => Aside0.mk (hb ▸ letter133 (bt a0 0) w)
      rw [← hb]
      clear hb
      have HR := fun w => Aside0.mk (run134 a0 hs w)
      obtain ⟨r, hr⟩ : ∃ r, r = runF a0 a0.size 0 := ⟨_, rfl⟩
      rw [← hr]
      have HR := fun w => Aside0.mk (hr ▸ (HR w).out)
      clear hr
      cases b
      · rw [if_neg (by decide)]
        go_enter Try.func119, Try.ntmps119
        go_wp2_with (first | (go_at_call 133; refine (HL _).out.mono ?_; rintro e w' ⟨rfl, ⟨nd, rfl⟩⟩))
        go_ret
        exact ⟨rfl, t_72⟩
      · rw [if_pos rfl]
        go_enter Try.func119, Try.ntmps119
        go_wp2_with (first | (go_at_call 133; refine (HL _).out.mono ?_; rintro e w' ⟨rfl, ⟨nd, rfl⟩⟩) | (go_at_call 134; refine (HR _).out.mono ?_; rintro e w' ⟨rfl, ⟨nd, rfl⟩⟩))
        go_ret
        exact ⟨rfl, t_72⟩
  · rw [if_neg hs] at h
    simp at h
end Go.Proofs.Ytndbchcfjajgbaa.XP
end
